/- The parser's walks: a block's closure. The parser's walks: block. The parser's walks: a parameter. -/
import Derived.Test.YtlnhhffhmeekoaaGreatDoorGParE
set_option linter.unusedVariables false
set_option linter.unusedSimpArgs false
namespace Go.Proofs.YtlnhhffhmeekoaaGreatDoor
open Go.RowKit Go.IntWalk
section
variable {T : List Tok} {gt cap g k o f : Nat} {w : World}
/-- block's loop: what has been read -/
structure BlkL (T : List Tok) (gt cap g o bp bn f : Nat) (c0 c1 c2 c3 c4 c5 c6 c7 c9 : Value) (w : World) (R : PR (List N)) (j : Nat) (W : World) : Prop where
  ex : ∃ acc v k', j + acc.length ≤ f ∧ PSt T gt cap g k' o W ∧ Fr (fun b => g = b ∨ bn = b) w W ∧ Box bp #[pPtr g] 52 W ∧ Box bn #[c0, c1, c2, c3, c4, c5, c6, c7, v, c9] 29 W ∧ KidRow (fun b => w.heap.size ≤ b) W v acc ∧ pStmts j o acc (T.drop k') = R
set_option maxRecDepth 20000 in
set_option maxHeartbeats 2000000 in
theorem k_blockc (hT : TkOk T) (hf : f ≤ 200000) (ih : ∀ j, j ≤ f → KnotS T gt cap g j) (h : PSt T gt cap g k o w) (hne : pStmts f o [] (T.drop k) ≠ .out) (bp bn : Nat) (c0 c1 c2 c3 c4 c5 c6 c7 c9 : Value) (hbp : Box bp #[pPtr g] 52 w) (hbn : Box bn #[c0, c1, c2, c3, c4, c5, c6, c7, .slice none 0 0, c9] 29 w) (hne1 : bn ≠ g) (hne2 : bn ≠ gt) (hne3 : bp ≠ g) (hne4 : bp ≠ bn) :
    Calls Tryz.prog 175 #[pPtr bp, pPtr bn] w (EndK T gt cap g o bn c0 c1 c2 c3 c4 c5 c6 c7 c9 w (pStmts f o [] (T.drop k))) := by
  have Hih := Lib.hid ih
  have hlg := h.box.lt
  have hlt := h.ltt
  have hln := hbn.lt
  have hlp := hbp.lt
  have HNe := Lib.hid hne
  generalize hR : pStmts f o [] (T.drop k) = R at *
  have HL := Lib.hid (show BlkL T gt cap g o bp bn f c0 c1 c2 c3 c4 c5 c6 c7 c9 w R f w from ⟨[], _, k, by simp, h, Fr.refl _ _, hbp, hbn, KidRow.nil _ _, hR⟩)
  clear h hbp hbn hne ih hR
  go_enter Tryz.func175, Tryz.ntmps175
  go_wp2_with fail
  go_loopg [] f (fun j wr => BlkL T gt cap g o bp bn f c0 c1 c2 c3 c4 c5 c6 c7 c9 w R j wr)
  case atStart => exact HL.out
  case round =>
    obtain ⟨acc, v, k', hle, hP, hF, hBp, hBn, hK, hR2⟩ := hrel
    clear HL
    cases gk with
    | zero => exact absurd (by rw [← hR2, pStmts]) HNe.out
    | succ j =>
    rw [pStmts, drop_tail] at hR2
    have HP := Lib.hid hP
    have HF := Lib.hid hF
    have HBp := Lib.hid hBp
    have HBn := Lib.hid hBn
    have HK := Lib.hid hK
    have HR2 := Lib.hid hR2
    have p0 := hBp.cell 0 rfl
    clear hP hF hBp hBn hK hR2
    go_wp2_with fail
    cases hi : isT [125] (T.drop k') with
    | true =>
      have HQ := Lib.hid (show R = .ok acc (T.drop (k' + 1)) by rw [← HR2.out, if_pos hi])
      have hk1 := isT_next hT HP.out.lt hi
      refine (p_is_at HP.out [125] true hi).mono ?_
      rintro e w1 ⟨rfl, hb⟩
      have HP1 := Lib.hid (HP.out.below hb)
      have HF1 := Lib.hid (HF.out.below hb)
      have HBn1 := Lib.hid (HBn.out.below hb)
      have HK1 := Lib.hid (HK.out.below hb)
      have q0 := bcell hb p0
      clear hb p0 hi
      go_wp2_with fail
      refine (p_next HP1.out hk1).mono ?_
      rintro e w2 ⟨rfl, hP, hF⟩
      have HE := Lib.hid (show EndK T gt cap g o bn c0 c1 c2 c3 c4 c5 c6 c7 c9 w R (.returned (.tuple #[])) w2 from .inr ⟨acc, v, k' + 1, HQ.out, rfl, hP, HF1.out.trans (hF.mono fun b _ h => .inl h), HBn1.out.fr hF (fun e => hne1 e.symm), HK1.out.fr hF (fun b _ h1 h2 => by omega), by omega⟩)
      clear hP hF
      go_wp2_with fail
      go_end0
      exact HE.out
    | false =>
      have HQ := Lib.hid (show (pStmt j o (T.drop k')).bind (fun n r => pStmts j o (acc ++ [n]) r) = R by rw [← HR2.out, if_neg (by rw [hi]; simp)])
      refine (p_is_at HP.out [125] false hi).mono ?_
      rintro e w1 ⟨rfl, hb⟩
      have HP1 := Lib.hid (HP.out.below hb)
      have HF1 := Lib.hid (HF.out.below hb)
      have HBp1 := Lib.hid (HBp.out.below hb)
      have HBn1 := Lib.hid (HBn.out.below hb)
      have HK1 := Lib.hid (HK.out.below hb)
      have hz1 := hb.size
      clear hb hi p0 HP HF HBp HBn HK
      -- region starts
      obtain ⟨A1, ca1, rfl⟩ := HK1.out.lvs
      have hzz := HF1.out.size
      have hS0 : (w1.drew.cell? ⟨bp, 0, none⟩ = some (pPtr g) ∧ w1.drew.cell? ⟨bn, 8, none⟩ = some (.slice A1 acc.length ca1)) := ⟨(show Box bp _ _ w1.drew from HBp1.out).cell 0 rfl, (show Box bn _ _ w1.drew from HBn1.out).cell 8 rfl⟩
      have HCS := Lib.hid (fun W hW (hin : pStmt j o (T.drop k') ≠ .out) => (Hih.out j (by omega)).stmt o k' W hW hin)
      have hin : pStmt j o (T.drop k') ≠ .out := fun e => HNe.out (by rw [← HQ.out, e]; rfl)
      have Hin := Lib.hid hin
      clear hin
      go_upto_region 6 with fail
      refine wp_region_pivot 6 (S := fun W => W.cell? ⟨bp, 0, none⟩ = some (pPtr g) ∧ W.cell? ⟨bn, 8, none⟩ = some (.slice A1 acc.length ca1)) (by kernel_rfl) ?_
      try simp only [Act.put, List.setIfInBounds_toArray, List.set_cons_zero, List.set_cons_succ]
      refine wpAnyP_take (i := 0) (v := ?vA0) rfl (by kernel_rfl) (by kernel_rfl) (by kernel_rfl) (by kernel_rfl) (fun _ _ _ h => h) (Or.inl ⟨by rfl, ?yA0⟩) (by exact hS0) ?rA0
      case yA0 => (intro W hSw; (obtain ⟨s0, s1⟩ := hSw); go_simp; try with_reducible rfl)
      try simp only [Act.put, List.setIfInBounds_toArray, List.set_cons_zero, List.set_cons_succ]
      refine wpAnyP_take (i := 1) (v := ?vA1) rfl (by kernel_rfl) (by kernel_rfl) (by kernel_rfl) (by kernel_rfl) (fun _ _ _ h => h) (Or.inl ⟨by rfl, ?yA1⟩) (by exact hS0) ?rA1
      case yA1 => (intro W hSw; (obtain ⟨s0, s1⟩ := hSw); go_simp; try with_reducible rfl)
      try simp only [Act.put, List.setIfInBounds_toArray, List.set_cons_zero, List.set_cons_succ]
      refine wpAnyP_take (i := 2) (v := ?vA2) rfl (by kernel_rfl) (by kernel_rfl) (by kernel_rfl) (by kernel_rfl) (fun _ _ _ h => h) (Or.inl ⟨by rfl, ?yA2⟩) (by exact hS0) ?rA2
      case yA2 => (intro W hSw; (obtain ⟨s0, s1⟩ := hSw); go_simp; try with_reducible rfl)
      try simp only [Act.put, List.setIfInBounds_toArray, List.set_cons_zero, List.set_cons_succ]
      refine wpAnyP_take (i := 4) (v := ?vA4) rfl (by kernel_rfl) (by kernel_rfl) (by kernel_rfl) (by kernel_rfl) (fun _ _ _ h => h) (Or.inl ⟨by rfl, ?yA4⟩) (by exact hS0) ?rA4
      case yA4 => (intro W hSw; (obtain ⟨s0, s1⟩ := hSw); go_simp; try with_reducible rfl)
      try simp only [Act.put, List.setIfInBounds_toArray, List.set_cons_zero, List.set_cons_succ]
      refine wpAnyP_ready (rs := [3, 5]) (by kernel_rfl) (by simp) ?_
      refine AllReadyP.cons rfl (fun K hK => ?_) (AllReadyP.cons rfl (fun K hK => ?_) AllReadyP.nil)
      · go_simp
        refine (HCS.out w1.drew (HP1.out.same rfl) Hin.out).mono ?_
        rintro e w2 (⟨c, p, hr, rfl, hF⟩ | ⟨n, lv, k2, hr, rfl, hP, hF, hO⟩)
        · have HQ2 := Lib.hid (show R = .bad c p by rw [← HQ.out, PR.bind_bad hr])
          exact ⟨rfl, .inl ⟨c, p, HQ2.out, rfl, HF1.out.drew.trans (hF.mono fun b _ h => .inl h)⟩⟩
        · obtain ⟨A2, ca2, rfl⟩ := hO.lvs
          have HQ2 := Lib.hid (show pStmts j o (acc ++ [n]) (T.drop k2) = R by rw [← HQ.out, PR.bind_ok hr])
          have hbp2 := Lib.hid (Box.fr (show Box bp _ _ w1.drew from HBp1.out) hF (fun e => hne3 e.symm))
          have hbn2 := Lib.hid (Box.fr (show Box bn _ _ w1.drew from HBn1.out) hF (fun e => hne1 e.symm))
          refine hK.out _ _ (.inr (.inr ⟨hbp2.out.cell 0 rfl, hbn2.out.cell 8 rfl⟩)) ?_
          clear hK K
          try simp only [Act.put, List.setIfInBounds_toArray, List.set_cons_zero, List.set_cons_succ]
          have hzd : w1.heap.size ≤ w2.heap.size := hF.size
          have HP2 := Lib.hid hP
          have HF2 := Lib.hid (HF1.out.drew.trans (hF.mono (ok' := fun b => g = b ∨ bn = b) fun b _ h => .inl h))
          have HK2 := Lib.hid (KidRow.fr ((KidRow.imp HK1.out (ok' := fun b => w.heap.size ≤ b ∧ b < w1.heap.size) (fun b hb h => ⟨h, hb⟩)).below (Below.refl _ w1).drew) hF (fun b _ h1 h2 => by omega))
          have HO2 := Lib.hid (show OwN (fun b => w1.heap.size ≤ b ∧ b < w2.heap.size) w2 (cellsN n (.slice A2 n.kids.length ca2)) n from hO.lt)
          clear hP hF hO hr
          refine wpAnyP_ready (rs := [5]) (by kernel_rfl) (by simp) ?_
          refine AllReadyP.cons rfl (fun K hK => ?_) AllReadyP.nil
          go_simp
          have hal := p_al w2 (.cells #[.int .i64 0, .string ⟨#[]⟩, .int .i64 0, .int .i64 0, .string ⟨#[]⟩, .slice none 0 0, .slice none 0 0, .bool false, .slice none 0 0, .int .i64 0] 29)
          refine hK.out _ _ (.inr (.inr ⟨(hbp2.out.below hal).cell 0 rfl, (hbn2.out.below hal).cell 8 rfl⟩)) ?_
          clear hK K
          try simp only [Act.put, List.setIfInBounds_toArray, List.set_cons_zero, List.set_cons_succ]
          have HZ3 := Lib.hid (Box.new w2 #[.int .i64 0, .string ⟨#[]⟩, .int .i64 0, .int .i64 0, .string ⟨#[]⟩, .slice none 0 0, .slice none 0 0, .bool false, .slice none 0 0, .int .i64 0] 29)
          have HP3 := Lib.hid (HP2.out.below hal)
          have HF3 := Lib.hid (HF2.out.below hal)
          have HK3 := Lib.hid (HK2.out.below hal)
          have HO3 := Lib.hid (OwN.below (HO2.out) hal)
          have HBp3 := Lib.hid (hbp2.out.below hal)
          have HBn3 := Lib.hid (hbn2.out.below hal)
          clear hal HP2 HF2 HK2 HO2 hbp2 hbn2 HP1 HF1 HBp1 HBn1 HK1
          have hz3 : w2.heap.size + 1 = (w2.alloc (.cells #[.int .i64 0, .string ⟨#[]⟩, .int .i64 0, .int .i64 0, .string ⟨#[]⟩, .slice none 0 0, .slice none 0 0, .bool false, .slice none 0 0, .int .i64 0] 29)).heap.size := by simp
          generalize (w2.alloc (.cells #[.int .i64 0, .string ⟨#[]⟩, .int .i64 0, .int .i64 0, .string ⟨#[]⟩, .slice none 0 0, .slice none 0 0, .bool false, .slice none 0 0, .int .i64 0] 29)) = w3 at *
          refine wpAnyP_ready (rs := [6]) (by kernel_rfl) (by simp) ?_
          refine AllReadyP.cons rfl (fun K hK => ?_) AllReadyP.nil
          rw [if_pos (by kernel_rfl)]
          refine opN_append_at (z := .mk 0 [] V.zero false [] 0) (lvz := .slice none 0 0) _ w2.heap.size _ _ rfl rfl rfl HZ3.out HK3.out (OwN.leaf _ _ _ (by constructor <;> simp [N.kind]) (by constructor <;> simp [N.spot]) (by simp [N.text]) ⟨by constructor <;> simp [V.kind, V.zero, N.val], by constructor <;> simp [V.num, V.zero, N.val], by simp [V.str, V.zero, N.val], rfl, rfl⟩ rfl) (by omega) ?_
          intro v1 w4 hK4 hF4
          refine hK.out _ _ (.inr (.inl rfl)) ?_
          clear hK K
          try simp only [Act.put, List.setIfInBounds_toArray, List.set_cons_zero, List.set_cons_succ]
          obtain ⟨b, ca4, rfl, hbP, hbl, hbc, cur, hcur, hcs⟩ := hK4.block (by simp)
          refine wpAnyP_tail _ _ _ _ (by kernel_rfl) ?_
          have hbb : w.heap.size ≤ b := by rcases hbP with h | h <;> omega
          have HBp4 := Lib.hid (HBp3.out.fr hF4 (fun h => by omega))
          have HBn4 := Lib.hid (HBn3.out.fr hF4 (fun h => by omega))
          have HP4 := Lib.hid (HP3.out.fr hF4 (by have := HP3.out.ltt; omega) (by omega))
          have HF4 := Lib.hid (HF3.out.past hF4 (fun k hk h => by omega))
          have HO4 := Lib.hid (HO3.out.fr hF4 (fun k _ h1 h2 => by omega))
          have hz4 : w3.heap.size ≤ w4.heap.size := hF4.size
          have HK4 := Lib.hid hK4
          have hcs' : acc.length * 10 + 10 ≤ cur.size := by simp at hcs; omega
          have hnb : ¬ b = bn := by omega
          have hbn : ¬ bn = b := by omega
          clear hK4 hF4 HP3 HF3 HBp3 HBn3 HK3 HO3 HZ3
          refine wpAnyH_take (i := 7) (v := .pointer (some ⟨b, acc.length * 10, none⟩)) rfl (by kernel_rfl) (by kernel_rfl) (by kernel_rfl) (fun _ _ _ h => h) (Or.inl ⟨by rfl, ?yB7⟩) trivial ?rB7
          case yB7 => (intro W hSw; clear hSw; go_simp; intro hX; omega)
          try simp only [Act.put, List.setIfInBounds_toArray, List.set_cons_zero, List.set_cons_succ]
          refine wpAnyH_take (i := 9) (v := ?vB9) rfl (by kernel_rfl) (by kernel_rfl) (by kernel_rfl) (fun _ _ _ h => h) (Or.inl ⟨by rfl, ?yB9⟩) trivial ?rB9
          case yB9 => (intro W hSw; clear hSw; go_simp; try with_reducible rfl)
          try simp only [Act.put, List.setIfInBounds_toArray, List.set_cons_zero, List.set_cons_succ]
          refine wpAnyH_ready (rs := [8, 10]) (by kernel_rfl) (by simp) ?_
          refine AllReadyH.cons rfl (fun K hK => ?_) (AllReadyH.cons rfl (fun K hK => ?_) AllReadyH.nil)
          · obtain ⟨e0, z0, y0⟩ := row_cell hcur (i := acc.length * 10) (by omega)
            obtain ⟨e1, z1, y1⟩ := row_cell hcur (i := acc.length * 10 + 1) (by omega)
            obtain ⟨e2, z2, y2⟩ := row_cell hcur (i := acc.length * 10 + 2) (by omega)
            obtain ⟨e3, z3, y3⟩ := row_cell hcur (i := acc.length * 10 + 3) (by omega)
            obtain ⟨e4, z4, y4⟩ := row_cell hcur (i := acc.length * 10 + 4) (by omega)
            obtain ⟨e5, z5, y5⟩ := row_cell hcur (i := acc.length * 10 + 5) (by omega)
            obtain ⟨e6, z6, y6⟩ := row_cell hcur (i := acc.length * 10 + 6) (by omega)
            obtain ⟨e7, z7, y7⟩ := row_cell hcur (i := acc.length * 10 + 7) (by omega)
            obtain ⟨e8, z8, y8⟩ := row_cell hcur (i := acc.length * 10 + 8) (by omega)
            obtain ⟨e9, z9, y9⟩ := row_cell hcur (i := acc.length * 10 + 9) (by omega)
            go_simp
            have hfr := (((((((((((Fr.refl (fun k => b = k) w4).set1 b (acc.length * 10) rfl (.int .i64 n.kind)).set1 b (acc.length * 10 + 1) rfl (.string ⟨n.text.toArray⟩)).set1 b (acc.length * 10 + 2) rfl (.int .i64 n.val.kind)).set1 b (acc.length * 10 + 3) rfl (.int .i64 n.val.num)).set1 b (acc.length * 10 + 4) rfl (.string ⟨n.val.str.toArray⟩)).set1 b (acc.length * 10 + 5) rfl (.slice none 0 0)).set1 b (acc.length * 10 + 6) rfl (.slice none 0 0)).set1 b (acc.length * 10 + 7) rfl (.bool n.flag)).set1 b (acc.length * 10 + 8) rfl (.slice A2 n.kids.length ca2)).set1 b (acc.length * 10 + 9) rfl (.int .i64 n.spot))
            have HP5 := Lib.hid (HP4.out.fr hfr (by omega) (by omega))
            have HF5 := Lib.hid (HF4.out.past hfr (fun k hk h => by first | (exact .inr h) | omega))
            have HBp5 := Lib.hid (HBp4.out.fr hfr (by omega))
            have HBn5 := Lib.hid (HBn4.out.fr hfr (by omega))
            have HK5 := Lib.hid (KidRow.fill (ok := fun b => w.heap.size ≤ b) HK4.out rfl HO4.out (fun k _ h1 h2 => by rcases h1 with h1 | h1 <;> omega) (fun k _ h1 => by rcases h1 with h1 | h1 <;> omega) (fun k _ h1 => by omega))
            clear hfr z0 y0 z1 y1 z2 y2 z3 y3 z4 y4 z5 y5 z6 y6 z7 y7 z8 y8 z9 y9
            refine hK.out _ _ trivial (fun _ => ?_)
            clear hK K
            try simp only [Act.put, List.setIfInBounds_toArray, List.set_cons_zero, List.set_cons_succ]
            generalize ((((((((((w4.setCell ⟨b, acc.length * 10, none⟩ (.int .i64 n.kind)).setCell ⟨b, acc.length * 10 + 1, none⟩ (.string ⟨n.text.toArray⟩)).setCell ⟨b, acc.length * 10 + 2, none⟩ (.int .i64 n.val.kind)).setCell ⟨b, acc.length * 10 + 3, none⟩ (.int .i64 n.val.num)).setCell ⟨b, acc.length * 10 + 4, none⟩ (.string ⟨n.val.str.toArray⟩)).setCell ⟨b, acc.length * 10 + 5, none⟩ (.slice none 0 0)).setCell ⟨b, acc.length * 10 + 6, none⟩ (.slice none 0 0)).setCell ⟨b, acc.length * 10 + 7, none⟩ (.bool n.flag)).setCell ⟨b, acc.length * 10 + 8, none⟩ (.slice A2 n.kids.length ca2)).setCell ⟨b, acc.length * 10 + 9, none⟩ (.int .i64 n.spot)) = w5 at *
            refine wpAnyH_ready (rs := [10]) (by kernel_rfl) (by simp) ?_
            refine AllReadyH.cons rfl (fun K hK => ?_) AllReadyH.nil
            have x8 := HBn5.out.cell 8 rfl
            have l8 := HBn5.out.melt 8
            go_simp
            have hfr := (Fr.refl (fun k => bn = k) w5).set1 bn 8 rfl (.slice (some ⟨b, 0, none⟩) (acc.length + 1) ca4)
            have HP6 := Lib.hid (HP5.out.fr hfr (by omega) (by omega))
            have HF6 := Lib.hid (HF5.out.past hfr (fun k hk h => by first | (exact .inr h) | omega))
            have HBp6 := Lib.hid (HBp5.out.fr hfr (by omega))
            have hbx := HBn5.out.set 8 (.slice (some ⟨b, 0, none⟩) (acc.length + 1) ca4)
            simp only [List.setIfInBounds_toArray, List.set_cons_zero, List.set_cons_succ] at hbx
            have HBn6 := Lib.hid hbx
            have HK6 := Lib.hid (HK5.out.fr hfr (fun k _ h1 h2 => by omega))
            clear hfr hbx x8 l8
            refine hK.out _ _ trivial (fun _ => ?_)
            clear hK K
            try simp only [Act.put, List.setIfInBounds_toArray, List.set_cons_zero, List.set_cons_succ]
            generalize (w5.setCell ⟨bn, 8, none⟩ (.slice (some ⟨b, 0, none⟩) (acc.length + 1) ca4)) = w6 at *
            refine wpAnyH_done (by kernel_rfl) ?_ _
            go_wp2_with fail
            go_roundg j
            case measure => omega
            case rel => exact ⟨acc ++ [n], _, k2, by simp; omega, HP6.out, HF6.out, HBp6.out, HBn6.out, by simpa using HK6.out, HQ2.out⟩
          · have x8 := HBn4.out.cell 8 rfl
            have l8 := HBn4.out.melt 8
            go_simp
            have hfr := (Fr.refl (fun k => bn = k) w4).set1 bn 8 rfl (.slice (some ⟨b, 0, none⟩) (acc.length + 1) ca4)
            have HP5 := Lib.hid (HP4.out.fr hfr (by omega) (by omega))
            have HF5 := Lib.hid (HF4.out.past hfr (fun k hk h => by first | (exact .inr h) | omega))
            have HBp5 := Lib.hid (HBp4.out.fr hfr (by omega))
            have hbx := HBn4.out.set 8 (.slice (some ⟨b, 0, none⟩) (acc.length + 1) ca4)
            simp only [List.setIfInBounds_toArray, List.set_cons_zero, List.set_cons_succ] at hbx
            have HBn5 := Lib.hid hbx
            have HK5 := Lib.hid (HK4.out.fr hfr (fun k _ h1 h2 => by rcases h1 with h1 | h1 <;> omega))
            have HO5 := Lib.hid (HO4.out.fr hfr (fun k _ h1 h2 => by omega))
            have hcur5 := (hfr.block b hbl hbn).trans hcur
            have hz5 : w4.heap.size = (w4.setCell ⟨bn, 8, none⟩ (.slice (some ⟨b, 0, none⟩) (acc.length + 1) ca4)).heap.size := by simp [World.setCell]
            clear hfr hbx x8 l8
            refine hK.out _ _ trivial (fun _ => ?_)
            clear hK K
            try simp only [Act.put, List.setIfInBounds_toArray, List.set_cons_zero, List.set_cons_succ]
            generalize (w4.setCell ⟨bn, 8, none⟩ (.slice (some ⟨b, 0, none⟩) (acc.length + 1) ca4)) = w5 at *
            refine wpAnyH_ready (rs := [8]) (by kernel_rfl) (by simp) ?_
            refine AllReadyH.cons rfl (fun K hK => ?_) AllReadyH.nil
            obtain ⟨e0, z0, y0⟩ := row_cell hcur5 (i := acc.length * 10) (by omega)
            obtain ⟨e1, z1, y1⟩ := row_cell hcur5 (i := acc.length * 10 + 1) (by omega)
            obtain ⟨e2, z2, y2⟩ := row_cell hcur5 (i := acc.length * 10 + 2) (by omega)
            obtain ⟨e3, z3, y3⟩ := row_cell hcur5 (i := acc.length * 10 + 3) (by omega)
            obtain ⟨e4, z4, y4⟩ := row_cell hcur5 (i := acc.length * 10 + 4) (by omega)
            obtain ⟨e5, z5, y5⟩ := row_cell hcur5 (i := acc.length * 10 + 5) (by omega)
            obtain ⟨e6, z6, y6⟩ := row_cell hcur5 (i := acc.length * 10 + 6) (by omega)
            obtain ⟨e7, z7, y7⟩ := row_cell hcur5 (i := acc.length * 10 + 7) (by omega)
            obtain ⟨e8, z8, y8⟩ := row_cell hcur5 (i := acc.length * 10 + 8) (by omega)
            obtain ⟨e9, z9, y9⟩ := row_cell hcur5 (i := acc.length * 10 + 9) (by omega)
            go_simp
            have hfr := (((((((((((Fr.refl (fun k => b = k) w5).set1 b (acc.length * 10) rfl (.int .i64 n.kind)).set1 b (acc.length * 10 + 1) rfl (.string ⟨n.text.toArray⟩)).set1 b (acc.length * 10 + 2) rfl (.int .i64 n.val.kind)).set1 b (acc.length * 10 + 3) rfl (.int .i64 n.val.num)).set1 b (acc.length * 10 + 4) rfl (.string ⟨n.val.str.toArray⟩)).set1 b (acc.length * 10 + 5) rfl (.slice none 0 0)).set1 b (acc.length * 10 + 6) rfl (.slice none 0 0)).set1 b (acc.length * 10 + 7) rfl (.bool n.flag)).set1 b (acc.length * 10 + 8) rfl (.slice A2 n.kids.length ca2)).set1 b (acc.length * 10 + 9) rfl (.int .i64 n.spot))
            have HP6 := Lib.hid (HP5.out.fr hfr (by omega) (by omega))
            have HF6 := Lib.hid (HF5.out.past hfr (fun k hk h => by first | (exact .inr h) | omega))
            have HBp6 := Lib.hid (HBp5.out.fr hfr (by omega))
            have HBn6 := Lib.hid (HBn5.out.fr hfr (by omega))
            have HK6 := Lib.hid (KidRow.fill (ok := fun b => w.heap.size ≤ b) HK5.out rfl HO5.out (fun k _ h1 h2 => by rcases h1 with h1 | h1 <;> omega) (fun k _ h1 => by rcases h1 with h1 | h1 <;> omega) (fun k _ h1 => by omega))
            clear hfr z0 y0 z1 y1 z2 y2 z3 y3 z4 y4 z5 y5 z6 y6 z7 y7 z8 y8 z9 y9
            refine hK.out _ _ trivial (fun _ => ?_)
            clear hK K
            try simp only [Act.put, List.setIfInBounds_toArray, List.set_cons_zero, List.set_cons_succ]
            generalize ((((((((((w5.setCell ⟨b, acc.length * 10, none⟩ (.int .i64 n.kind)).setCell ⟨b, acc.length * 10 + 1, none⟩ (.string ⟨n.text.toArray⟩)).setCell ⟨b, acc.length * 10 + 2, none⟩ (.int .i64 n.val.kind)).setCell ⟨b, acc.length * 10 + 3, none⟩ (.int .i64 n.val.num)).setCell ⟨b, acc.length * 10 + 4, none⟩ (.string ⟨n.val.str.toArray⟩)).setCell ⟨b, acc.length * 10 + 5, none⟩ (.slice none 0 0)).setCell ⟨b, acc.length * 10 + 6, none⟩ (.slice none 0 0)).setCell ⟨b, acc.length * 10 + 7, none⟩ (.bool n.flag)).setCell ⟨b, acc.length * 10 + 8, none⟩ (.slice A2 n.kids.length ca2)).setCell ⟨b, acc.length * 10 + 9, none⟩ (.int .i64 n.spot)) = w6 at *
            refine wpAnyH_done (by kernel_rfl) ?_ _
            go_wp2_with fail
            go_roundg j
            case measure => omega
            case rel => exact ⟨acc ++ [n], _, k2, by simp; omega, HP6.out, HF6.out, HBp6.out, HBn6.out, by simpa using HK6.out, HQ2.out⟩
      · go_simp
        have hal : Below w1.drew.heap.size w1.drew (w1.alloc (.cells #[.int .i64 0, .string ⟨#[]⟩, .int .i64 0, .int .i64 0, .string ⟨#[]⟩, .slice none 0 0, .slice none 0 0, .bool false, .slice none 0 0, .int .i64 0] 29)).drew := p_al w1.drew (.cells #[.int .i64 0, .string ⟨#[]⟩, .int .i64 0, .int .i64 0, .string ⟨#[]⟩, .slice none 0 0, .slice none 0 0, .bool false, .slice none 0 0, .int .i64 0] 29)
        have HBp2 := Lib.hid (Box.below (show Box bp _ _ w1.drew from HBp1.out) hal)
        have HBn2 := Lib.hid (Box.below (show Box bn _ _ w1.drew from HBn1.out) hal)
        have HZ2 := Lib.hid (show Box w1.heap.size #[.int .i64 0, .string ⟨#[]⟩, .int .i64 0, .int .i64 0, .string ⟨#[]⟩, .slice none 0 0, .slice none 0 0, .bool false, .slice none 0 0, .int .i64 0] 29 (w1.alloc (.cells #[.int .i64 0, .string ⟨#[]⟩, .int .i64 0, .int .i64 0, .string ⟨#[]⟩, .slice none 0 0, .slice none 0 0, .bool false, .slice none 0 0, .int .i64 0] 29)).drew from Box.new w1.drew #[.int .i64 0, .string ⟨#[]⟩, .int .i64 0, .int .i64 0, .string ⟨#[]⟩, .slice none 0 0, .slice none 0 0, .bool false, .slice none 0 0, .int .i64 0] 29)
        have HP2 := Lib.hid (PSt.below (HP1.out.same (W' := w1.drew) rfl) hal)
        have HF2 := Lib.hid (HF1.out.drew.below hal)
        have HK2 := Lib.hid (KidRow.below ((KidRow.imp HK1.out (ok' := fun b => w.heap.size ≤ b ∧ b < w1.heap.size) (fun b hb h => ⟨h, hb⟩)).below (Below.refl _ w1).drew) hal)
        have hz2 : w1.heap.size + 1 = ((w1.alloc (.cells #[.int .i64 0, .string ⟨#[]⟩, .int .i64 0, .int .i64 0, .string ⟨#[]⟩, .slice none 0 0, .slice none 0 0, .bool false, .slice none 0 0, .int .i64 0] 29)).drew).heap.size := by simp [World.drew]
        refine hK.out _ _ (.inr (.inr ⟨HBp2.out.cell 0 rfl, HBn2.out.cell 8 rfl⟩)) ?_
        clear hK K hal HP1 HF1 HBp1 HBn1 HK1
        try simp only [Act.put, List.setIfInBounds_toArray, List.set_cons_zero, List.set_cons_succ]
        generalize ((w1.alloc (.cells #[.int .i64 0, .string ⟨#[]⟩, .int .i64 0, .int .i64 0, .string ⟨#[]⟩, .slice none 0 0, .slice none 0 0, .bool false, .slice none 0 0, .int .i64 0] 29)).drew) = w2 at *
        refine wpAnyP_ready (rs := [3]) (by kernel_rfl) (by simp) ?_
        refine AllReadyP.cons rfl (fun K hK => ?_) AllReadyP.nil
        go_simp
        refine (HCS.out w2 HP2.out Hin.out).mono ?_
        rintro e w3 (⟨c, p, hr, rfl, hF⟩ | ⟨n, lv, k2, hr, rfl, hP, hF, hO⟩)
        · have HQ2 := Lib.hid (show R = .bad c p by rw [← HQ.out, PR.bind_bad hr])
          exact ⟨rfl, .inl ⟨c, p, HQ2.out, rfl, HF2.out.trans (hF.mono fun b _ h => .inl h)⟩⟩
        · obtain ⟨A2, ca2, rfl⟩ := hO.lvs
          have HQ2 := Lib.hid (show pStmts j o (acc ++ [n]) (T.drop k2) = R by rw [← HQ.out, PR.bind_ok hr])
          have HBp3 := Lib.hid (HBp2.out.fr hF (fun e => hne3 e.symm))
          have HBn3 := Lib.hid (HBn2.out.fr hF (fun e => hne1 e.symm))
          refine hK.out _ _ (.inr (.inr ⟨HBp3.out.cell 0 rfl, HBn3.out.cell 8 rfl⟩)) ?_
          clear hK K
          try simp only [Act.put, List.setIfInBounds_toArray, List.set_cons_zero, List.set_cons_succ]
          have hz3 : w2.heap.size ≤ w3.heap.size := hF.size
          have HP3 := Lib.hid hP
          have HF3 := Lib.hid (HF2.out.trans (hF.mono (ok' := fun b => g = b ∨ bn = b) fun b _ h => .inl h))
          have HK3 := Lib.hid (HK2.out.fr hF (fun b _ h1 h2 => by omega))
          have HZ3 := Lib.hid (Box.fr HZ2.out hF (show ¬ g = w1.heap.size by have := HF2.out.size; omega))
          have HO3 := Lib.hid (show OwN (fun b => w1.heap.size ≤ b ∧ b < w3.heap.size) w3 (cellsN n (.slice A2 n.kids.length ca2)) n from (hO.lt).imp (fun b _ h => by omega))
          clear hP hF hO hr HP2 HF2 HBp2 HBn2 HK2 HZ2
          refine wpAnyP_ready (rs := [6]) (by kernel_rfl) (by simp) ?_
          refine AllReadyP.cons rfl (fun K hK => ?_) AllReadyP.nil
          rw [if_pos (by kernel_rfl)]
          refine opN_append_at (z := .mk 0 [] V.zero false [] 0) (lvz := .slice none 0 0) _ w1.heap.size _ _ rfl rfl rfl HZ3.out HK3.out (OwN.leaf _ _ _ (by constructor <;> simp [N.kind]) (by constructor <;> simp [N.spot]) (by simp [N.text]) ⟨by constructor <;> simp [V.kind, V.zero, N.val], by constructor <;> simp [V.num, V.zero, N.val], by simp [V.str, V.zero, N.val], rfl, rfl⟩ rfl) (by omega) ?_
          intro v1 w4 hK4 hF4
          refine hK.out _ _ (.inr (.inl rfl)) ?_
          clear hK K
          try simp only [Act.put, List.setIfInBounds_toArray, List.set_cons_zero, List.set_cons_succ]
          obtain ⟨b, ca4, rfl, hbP, hbl, hbc, cur, hcur, hcs⟩ := hK4.block (by simp)
          refine wpAnyP_tail _ _ _ _ (by kernel_rfl) ?_
          have hbb : w.heap.size ≤ b := by rcases hbP with h | h <;> omega
          have HBp4 := Lib.hid (HBp3.out.fr hF4 (fun h => by omega))
          have HBn4 := Lib.hid (HBn3.out.fr hF4 (fun h => by omega))
          have HP4 := Lib.hid (HP3.out.fr hF4 (by have := HP3.out.ltt; omega) (by omega))
          have HF4 := Lib.hid (HF3.out.past hF4 (fun k hk h => by omega))
          have HO4 := Lib.hid (HO3.out.fr hF4 (fun k _ h1 h2 => by omega))
          have hz4 : w3.heap.size ≤ w4.heap.size := hF4.size
          have HK4 := Lib.hid hK4
          have hcs' : acc.length * 10 + 10 ≤ cur.size := by simp at hcs; omega
          have hnb : ¬ b = bn := by omega
          have hbn : ¬ bn = b := by omega
          clear hK4 hF4 HP3 HF3 HBp3 HBn3 HK3 HO3 HZ3
          refine wpAnyH_take (i := 7) (v := .pointer (some ⟨b, acc.length * 10, none⟩)) rfl (by kernel_rfl) (by kernel_rfl) (by kernel_rfl) (fun _ _ _ h => h) (Or.inl ⟨by rfl, ?yD7⟩) trivial ?rD7
          case yD7 => (intro W hSw; clear hSw; go_simp; intro hX; omega)
          try simp only [Act.put, List.setIfInBounds_toArray, List.set_cons_zero, List.set_cons_succ]
          refine wpAnyH_take (i := 9) (v := ?vD9) rfl (by kernel_rfl) (by kernel_rfl) (by kernel_rfl) (fun _ _ _ h => h) (Or.inl ⟨by rfl, ?yD9⟩) trivial ?rD9
          case yD9 => (intro W hSw; clear hSw; go_simp; try with_reducible rfl)
          try simp only [Act.put, List.setIfInBounds_toArray, List.set_cons_zero, List.set_cons_succ]
          refine wpAnyH_ready (rs := [8, 10]) (by kernel_rfl) (by simp) ?_
          refine AllReadyH.cons rfl (fun K hK => ?_) (AllReadyH.cons rfl (fun K hK => ?_) AllReadyH.nil)
          · obtain ⟨e0, z0, y0⟩ := row_cell hcur (i := acc.length * 10) (by omega)
            obtain ⟨e1, z1, y1⟩ := row_cell hcur (i := acc.length * 10 + 1) (by omega)
            obtain ⟨e2, z2, y2⟩ := row_cell hcur (i := acc.length * 10 + 2) (by omega)
            obtain ⟨e3, z3, y3⟩ := row_cell hcur (i := acc.length * 10 + 3) (by omega)
            obtain ⟨e4, z4, y4⟩ := row_cell hcur (i := acc.length * 10 + 4) (by omega)
            obtain ⟨e5, z5, y5⟩ := row_cell hcur (i := acc.length * 10 + 5) (by omega)
            obtain ⟨e6, z6, y6⟩ := row_cell hcur (i := acc.length * 10 + 6) (by omega)
            obtain ⟨e7, z7, y7⟩ := row_cell hcur (i := acc.length * 10 + 7) (by omega)
            obtain ⟨e8, z8, y8⟩ := row_cell hcur (i := acc.length * 10 + 8) (by omega)
            obtain ⟨e9, z9, y9⟩ := row_cell hcur (i := acc.length * 10 + 9) (by omega)
            go_simp
            have hfr := (((((((((((Fr.refl (fun k => b = k) w4).set1 b (acc.length * 10) rfl (.int .i64 n.kind)).set1 b (acc.length * 10 + 1) rfl (.string ⟨n.text.toArray⟩)).set1 b (acc.length * 10 + 2) rfl (.int .i64 n.val.kind)).set1 b (acc.length * 10 + 3) rfl (.int .i64 n.val.num)).set1 b (acc.length * 10 + 4) rfl (.string ⟨n.val.str.toArray⟩)).set1 b (acc.length * 10 + 5) rfl (.slice none 0 0)).set1 b (acc.length * 10 + 6) rfl (.slice none 0 0)).set1 b (acc.length * 10 + 7) rfl (.bool n.flag)).set1 b (acc.length * 10 + 8) rfl (.slice A2 n.kids.length ca2)).set1 b (acc.length * 10 + 9) rfl (.int .i64 n.spot))
            have HP5 := Lib.hid (HP4.out.fr hfr (by omega) (by omega))
            have HF5 := Lib.hid (HF4.out.past hfr (fun k hk h => by first | (exact .inr h) | omega))
            have HBp5 := Lib.hid (HBp4.out.fr hfr (by omega))
            have HBn5 := Lib.hid (HBn4.out.fr hfr (by omega))
            have HK5 := Lib.hid (KidRow.fill (ok := fun b => w.heap.size ≤ b) HK4.out rfl HO4.out (fun k _ h1 h2 => by rcases h1 with h1 | h1 <;> omega) (fun k _ h1 => by rcases h1 with h1 | h1 <;> omega) (fun k _ h1 => by omega))
            clear hfr z0 y0 z1 y1 z2 y2 z3 y3 z4 y4 z5 y5 z6 y6 z7 y7 z8 y8 z9 y9
            refine hK.out _ _ trivial (fun _ => ?_)
            clear hK K
            try simp only [Act.put, List.setIfInBounds_toArray, List.set_cons_zero, List.set_cons_succ]
            generalize ((((((((((w4.setCell ⟨b, acc.length * 10, none⟩ (.int .i64 n.kind)).setCell ⟨b, acc.length * 10 + 1, none⟩ (.string ⟨n.text.toArray⟩)).setCell ⟨b, acc.length * 10 + 2, none⟩ (.int .i64 n.val.kind)).setCell ⟨b, acc.length * 10 + 3, none⟩ (.int .i64 n.val.num)).setCell ⟨b, acc.length * 10 + 4, none⟩ (.string ⟨n.val.str.toArray⟩)).setCell ⟨b, acc.length * 10 + 5, none⟩ (.slice none 0 0)).setCell ⟨b, acc.length * 10 + 6, none⟩ (.slice none 0 0)).setCell ⟨b, acc.length * 10 + 7, none⟩ (.bool n.flag)).setCell ⟨b, acc.length * 10 + 8, none⟩ (.slice A2 n.kids.length ca2)).setCell ⟨b, acc.length * 10 + 9, none⟩ (.int .i64 n.spot)) = w5 at *
            refine wpAnyH_ready (rs := [10]) (by kernel_rfl) (by simp) ?_
            refine AllReadyH.cons rfl (fun K hK => ?_) AllReadyH.nil
            have x8 := HBn5.out.cell 8 rfl
            have l8 := HBn5.out.melt 8
            go_simp
            have hfr := (Fr.refl (fun k => bn = k) w5).set1 bn 8 rfl (.slice (some ⟨b, 0, none⟩) (acc.length + 1) ca4)
            have HP6 := Lib.hid (HP5.out.fr hfr (by omega) (by omega))
            have HF6 := Lib.hid (HF5.out.past hfr (fun k hk h => by first | (exact .inr h) | omega))
            have HBp6 := Lib.hid (HBp5.out.fr hfr (by omega))
            have hbx := HBn5.out.set 8 (.slice (some ⟨b, 0, none⟩) (acc.length + 1) ca4)
            simp only [List.setIfInBounds_toArray, List.set_cons_zero, List.set_cons_succ] at hbx
            have HBn6 := Lib.hid hbx
            have HK6 := Lib.hid (HK5.out.fr hfr (fun k _ h1 h2 => by omega))
            clear hfr hbx x8 l8
            refine hK.out _ _ trivial (fun _ => ?_)
            clear hK K
            try simp only [Act.put, List.setIfInBounds_toArray, List.set_cons_zero, List.set_cons_succ]
            generalize (w5.setCell ⟨bn, 8, none⟩ (.slice (some ⟨b, 0, none⟩) (acc.length + 1) ca4)) = w6 at *
            refine wpAnyH_done (by kernel_rfl) ?_ _
            go_wp2_with fail
            go_roundg j
            case measure => omega
            case rel => exact ⟨acc ++ [n], _, k2, by simp; omega, HP6.out, HF6.out, HBp6.out, HBn6.out, by simpa using HK6.out, HQ2.out⟩
          · have x8 := HBn4.out.cell 8 rfl
            have l8 := HBn4.out.melt 8
            go_simp
            have hfr := (Fr.refl (fun k => bn = k) w4).set1 bn 8 rfl (.slice (some ⟨b, 0, none⟩) (acc.length + 1) ca4)
            have HP5 := Lib.hid (HP4.out.fr hfr (by omega) (by omega))
            have HF5 := Lib.hid (HF4.out.past hfr (fun k hk h => by first | (exact .inr h) | omega))
            have HBp5 := Lib.hid (HBp4.out.fr hfr (by omega))
            have hbx := HBn4.out.set 8 (.slice (some ⟨b, 0, none⟩) (acc.length + 1) ca4)
            simp only [List.setIfInBounds_toArray, List.set_cons_zero, List.set_cons_succ] at hbx
            have HBn5 := Lib.hid hbx
            have HK5 := Lib.hid (HK4.out.fr hfr (fun k _ h1 h2 => by rcases h1 with h1 | h1 <;> omega))
            have HO5 := Lib.hid (HO4.out.fr hfr (fun k _ h1 h2 => by omega))
            have hcur5 := (hfr.block b hbl hbn).trans hcur
            have hz5 : w4.heap.size = (w4.setCell ⟨bn, 8, none⟩ (.slice (some ⟨b, 0, none⟩) (acc.length + 1) ca4)).heap.size := by simp [World.setCell]
            clear hfr hbx x8 l8
            refine hK.out _ _ trivial (fun _ => ?_)
            clear hK K
            try simp only [Act.put, List.setIfInBounds_toArray, List.set_cons_zero, List.set_cons_succ]
            generalize (w4.setCell ⟨bn, 8, none⟩ (.slice (some ⟨b, 0, none⟩) (acc.length + 1) ca4)) = w5 at *
            refine wpAnyH_ready (rs := [8]) (by kernel_rfl) (by simp) ?_
            refine AllReadyH.cons rfl (fun K hK => ?_) AllReadyH.nil
            obtain ⟨e0, z0, y0⟩ := row_cell hcur5 (i := acc.length * 10) (by omega)
            obtain ⟨e1, z1, y1⟩ := row_cell hcur5 (i := acc.length * 10 + 1) (by omega)
            obtain ⟨e2, z2, y2⟩ := row_cell hcur5 (i := acc.length * 10 + 2) (by omega)
            obtain ⟨e3, z3, y3⟩ := row_cell hcur5 (i := acc.length * 10 + 3) (by omega)
            obtain ⟨e4, z4, y4⟩ := row_cell hcur5 (i := acc.length * 10 + 4) (by omega)
            obtain ⟨e5, z5, y5⟩ := row_cell hcur5 (i := acc.length * 10 + 5) (by omega)
            obtain ⟨e6, z6, y6⟩ := row_cell hcur5 (i := acc.length * 10 + 6) (by omega)
            obtain ⟨e7, z7, y7⟩ := row_cell hcur5 (i := acc.length * 10 + 7) (by omega)
            obtain ⟨e8, z8, y8⟩ := row_cell hcur5 (i := acc.length * 10 + 8) (by omega)
            obtain ⟨e9, z9, y9⟩ := row_cell hcur5 (i := acc.length * 10 + 9) (by omega)
            go_simp
            have hfr := (((((((((((Fr.refl (fun k => b = k) w5).set1 b (acc.length * 10) rfl (.int .i64 n.kind)).set1 b (acc.length * 10 + 1) rfl (.string ⟨n.text.toArray⟩)).set1 b (acc.length * 10 + 2) rfl (.int .i64 n.val.kind)).set1 b (acc.length * 10 + 3) rfl (.int .i64 n.val.num)).set1 b (acc.length * 10 + 4) rfl (.string ⟨n.val.str.toArray⟩)).set1 b (acc.length * 10 + 5) rfl (.slice none 0 0)).set1 b (acc.length * 10 + 6) rfl (.slice none 0 0)).set1 b (acc.length * 10 + 7) rfl (.bool n.flag)).set1 b (acc.length * 10 + 8) rfl (.slice A2 n.kids.length ca2)).set1 b (acc.length * 10 + 9) rfl (.int .i64 n.spot))
            have HP6 := Lib.hid (HP5.out.fr hfr (by omega) (by omega))
            have HF6 := Lib.hid (HF5.out.past hfr (fun k hk h => by first | (exact .inr h) | omega))
            have HBp6 := Lib.hid (HBp5.out.fr hfr (by omega))
            have HBn6 := Lib.hid (HBn5.out.fr hfr (by omega))
            have HK6 := Lib.hid (KidRow.fill (ok := fun b => w.heap.size ≤ b) HK5.out rfl HO5.out (fun k _ h1 h2 => by rcases h1 with h1 | h1 <;> omega) (fun k _ h1 => by rcases h1 with h1 | h1 <;> omega) (fun k _ h1 => by omega))
            clear hfr z0 y0 z1 y1 z2 y2 z3 y3 z4 y4 z5 y5 z6 y6 z7 y7 z8 y8 z9 y9
            refine hK.out _ _ trivial (fun _ => ?_)
            clear hK K
            try simp only [Act.put, List.setIfInBounds_toArray, List.set_cons_zero, List.set_cons_succ]
            generalize ((((((((((w5.setCell ⟨b, acc.length * 10, none⟩ (.int .i64 n.kind)).setCell ⟨b, acc.length * 10 + 1, none⟩ (.string ⟨n.text.toArray⟩)).setCell ⟨b, acc.length * 10 + 2, none⟩ (.int .i64 n.val.kind)).setCell ⟨b, acc.length * 10 + 3, none⟩ (.int .i64 n.val.num)).setCell ⟨b, acc.length * 10 + 4, none⟩ (.string ⟨n.val.str.toArray⟩)).setCell ⟨b, acc.length * 10 + 5, none⟩ (.slice none 0 0)).setCell ⟨b, acc.length * 10 + 6, none⟩ (.slice none 0 0)).setCell ⟨b, acc.length * 10 + 7, none⟩ (.bool n.flag)).setCell ⟨b, acc.length * 10 + 8, none⟩ (.slice A2 n.kids.length ca2)).setCell ⟨b, acc.length * 10 + 9, none⟩ (.int .i64 n.spot)) = w6 at *
            refine wpAnyH_done (by kernel_rfl) ?_ _
            go_wp2_with fail
            go_roundg j
            case measure => omega
            case rel => exact ⟨acc ++ [n], _, k2, by simp; omega, HP6.out, HF6.out, HBp6.out, HBn6.out, by simpa using HK6.out, HQ2.out⟩
end
end Go.Proofs.YtlnhhffhmeekoaaGreatDoor
namespace Go.Proofs.YtlnhhffhmeekoaaGreatDoor
open Go.RowKit Go.IntWalk
section
variable {T : List Tok} {gt cap g k o f : Nat} {w : World}
theorem block_ent (a : Array Value) (w : World) : (callFunc 175 a).run Tryz.prog w = .ok (.enter 175 a) w := by kernel_rfl
set_option maxRecDepth 20000 in
set_option maxHeartbeats 2000000 in
theorem k_block (hT : TkOk T) (hf : f ≤ 200000) (ih : ∀ j, j ≤ f → KnotS T gt cap g j) (h : PSt T gt cap g k o w) (hne : pBlock (f + 1) o (T.drop k) ≠ .out) :
    Calls Tryz.prog 129 #[pPtr g] w (EndN T gt cap g o w (pBlock (f + 1) o (T.drop k))) := by
  have hat := hT.at h.lt
  have hkT := hd_tkAt T k h.lt
  generalize hR : pBlock (f + 1) o (T.drop k) = R at *
  rw [pBlock, hkT] at hR
  have hnk := fun s hs => isT_next (s := s) hT h.lt hs
  generalize hXX : tkAt T k = X at *
  obtain ⟨b1, b2, b3⟩ := two_new w #[pPtr g] zNode 52 29
  have hlg := h.box.lt
  have hlt := h.ltt
  have HRR := Lib.hid hR
  have HXX := Lib.hid hXX
  have HNe := Lib.hid hne
  have Hih := Lib.hid ih
  have Hat := Lib.hid hat
  have HNk := Lib.hid hnk
  have hal := p_al ((w.alloc (.cells #[pPtr g] 52)).alloc (.cells zNode 29)) (.cells #[.int .i64 4, .string ⟨#[]⟩, .int .i64 0, .int .i64 0, .string ⟨#[]⟩, .slice none 0 0, .slice none 0 0, .bool false, .slice none 0 0, .int .i64 0] 29)
  have hbt := bthen b3 hal
  have HP2 := Lib.hid (h.below hbt)
  have HF2 := Lib.hid (Fr.of_below (ok := fun b => g = b) hbt)
  have HD2 := Lib.hid (b1.below hal)
  have HE2 := Lib.hid (b2.below hal)
  have HN2 := Lib.hid (show Box (w.heap.size + 2) _ _ _ from (by simpa using Box.new ((w.alloc (.cells #[pPtr g] 52)).alloc (.cells zNode 29)) #[.int .i64 4, .string ⟨#[]⟩, .int .i64 0, .int .i64 0, .string ⟨#[]⟩, .slice none 0 0, .slice none 0 0, .bool false, .slice none 0 0, .int .i64 0] 29))
  have hz2 : w.heap.size + 3 = (((w.alloc (.cells #[pPtr g] 52)).alloc (.cells zNode 29)).alloc (.cells #[.int .i64 4, .string ⟨#[]⟩, .int .i64 0, .int .i64 0, .string ⟨#[]⟩, .slice none 0 0, .slice none 0 0, .bool false, .slice none 0 0, .int .i64 0] 29)).heap.size := by simp
  have d0 : ∀ A B, (((w.alloc (.cells #[pPtr g] 52)).alloc A).alloc B).cell? ⟨w.heap.size, 0, none⟩ = some (pPtr g) := fun A B => ((Box.new w #[pPtr g] 52).below (bthen (p_al _ A) (p_al _ B))).cell 0 rfl
  clear h hR hne ih hat hXX b1 b2 b3 hnk hal hbt
  go_enter Tryz.func129, Tryz.ntmps129
  go_wp2_with fail
  generalize (((w.alloc (.cells #[pPtr g] 52)).alloc (.cells zNode 29)).alloc (.cells #[.int .i64 4, .string ⟨#[]⟩, .int .i64 0, .int .i64 0, .string ⟨#[]⟩, .slice none 0 0, .slice none 0 0, .bool false, .slice none 0 0, .int .i64 0] 29)) = w2 at *
  clear d0
  cases hi : isT [123] (T.drop k) with
  | false =>
    have HQ := Lib.hid (show R = .bad 170 X.pos by rw [← HRR.out, if_neg (by rw [hi]; simp)])
    rw [← HXX.out] at HQ
    refine (p_is_at HP2.out [123] false hi).mono ?_
    rintro e w3 ⟨rfl, hb⟩
    have HP3 := Lib.hid (HP2.out.below hb)
    have HF3 := Lib.hid (HF2.out.below hb)
    have q0 := (HD2.out.below hb).cell 0 rfl
    clear hb
    go_wp2_with fail
    refine (p_fail HP3.out 170 _ rfl).mono ?_
    rintro e w4 ⟨rfl, hb⟩
    have HF4 := Lib.hid (HF3.out.below hb)
    clear hb
    go_wp2_with fail
    exact ⟨rfl, .inl ⟨_, _, HQ.out, rfl, HF4.out⟩⟩
  | true =>
    have HQ0 := Lib.hid (show (opensT o (T.drop k) fun r => (pStmts f (o + 1) [] r).bind fun l r => .ok (nodeP 4 [] l X.pos) r) = R by rw [← HRR.out, if_pos hi])
    have hk1 := HNk.out _ hi
    refine (p_is_at HP2.out [123] true hi).mono ?_
    rintro e w3 ⟨rfl, hb⟩
    have HP3 := Lib.hid (HP2.out.below hb)
    have HF3 := Lib.hid (HF2.out.below hb)
    have HD3 := Lib.hid (HD2.out.below hb)
    have HE3 := Lib.hid (HE2.out.below hb)
    have HN3 := Lib.hid (HN2.out.below hb)
    have hz3 := hb.size
    have q0 := HD3.out.cell 0 rfl
    clear hb HP2 HF2 HD2 HE2 HN2 hi
    go_wp2_with fail
    clear q0
    unfold opensT at HQ0
    by_cases ho : o = 24
    · subst ho
      have HQ := Lib.hid (show R = .bad 171 X.pos by rw [← HQ0.out, if_pos rfl, hkT])
      rw [← HXX.out] at HQ
      refine (p_within_no HP3.out _).mono ?_
      rintro e w9 ⟨rfl, hF⟩
      have HF9 := Lib.hid (HF3.out.trans hF)
      clear hF
      go_wp2_with fail
      exact ⟨rfl, .inl ⟨_, _, HQ.out, rfl, HF9.out⟩⟩
    · have HQ := Lib.hid (show (pStmts f (o + 1) [] (T.drop (k + 1))).bind (fun l r => .ok (nodeP 4 [] l X.pos) r) = R by rw [← HQ0.out, if_neg ho, drop_tail])
      have hin : pStmts f (o + 1) [] (T.drop (k + 1)) ≠ .out := fun e => HNe.out (by rw [← HQ.out, e]; rfl)
      have Hin := Lib.hid hin
      clear hin
      have hlN := HN3.out.lt
      refine (within_kids hT HP3.out hk1 (by have := HP3.out.open_; omega) 175 w.heap.size (w.heap.size + 2) (block_ent _) (by omega) (by omega) (by omega) _ _ _ _ _ _ _ _ _ _ HN3.out HD3.out (by omega) (pStmts f (o + 1) [] (T.drop (k + 1))) ?_).mono ?_
      · intro W1 hP hb1 hb2
        exact k_blockc hT hf Hih.out hP Hin.out _ _ _ _ _ _ _ _ _ _ _ hb1 hb2 (by omega) (by omega) (by omega) (by omega)
      · rintro e w9 (⟨c, p, hr, rfl, hF⟩ | ⟨l, lv, k', hr, rfl, hP, hF, hB, hK, hl⟩)
        · have HF9 := Lib.hid (HF3.out.past hF (fun b hb h => h.elim (fun h => h) (fun h => by omega)))
          have HQ3 := Lib.hid (show R = .bad c p by rw [← HQ.out, PR.bind_bad hr])
          clear hF hr
          go_wp2_with fail
          exact ⟨rfl, .inl ⟨_, _, HQ3.out, rfl, HF9.out⟩⟩
        · obtain ⟨A, ca, rfl⟩ := hK.lvs
          rw [HXX.out]
          have HQ3 := Lib.hid (show R = .ok (nodeP 4 [] l X.pos) (T.drop k') by rw [← HQ.out, PR.bind_ok hr])
          have HX9 := Lib.hid (HE3.out.fr hF (fun h => h.elim (fun e => by omega) (fun e => by omega)))
          have hset : Fr (fun b => w.heap.size + 2 = b) w9 (w9.setCell ⟨w.heap.size + 1 + 1, 9, none⟩ (.int .i64 (X.pos : Int))) := (Fr.refl _ w9).set1 _ 9 rfl _
          have hs9 := hF.size
          have HP10 := Lib.hid (hP.fr hset (by omega) (by omega))
          have HF10 := Lib.hid ((HF3.out.past hF (fun b hb h => h.elim (fun h => h) (fun h => by omega))).past hset (fun b hb h => by omega))
          have HX10 := Lib.hid (HX9.out.fr hset (by omega))
          have hbx := hB.set 9 (.int .i64 (X.pos : Int))
          simp only [List.setIfInBounds_toArray, List.set_cons_zero, List.set_cons_succ] at hbx
          have HB10 := Lib.hid (show Box (w.heap.size + 1 + 1) _ _ _ from hbx)
          have hz10 : w9.heap.size = (w9.setCell ⟨w.heap.size + 1 + 1, 9, none⟩ (.int .i64 (X.pos : Int))).heap.size := by simp [World.setCell]
          have hK10 : KidRow (fun b => w3.heap.size + 2 ≤ b) (w9.setCell ⟨w.heap.size + 1 + 1, 9, none⟩ (.int .i64 (X.pos : Int))) (.slice A l.length ca) l := hK.fr hset (fun b _ h1 h2 => by omega)
          have HO10 := Lib.hid (show OwN (fun b => w3.heap.size + 2 ≤ b) (w9.setCell ⟨w.heap.size + 1 + 1, 9, none⟩ (.int .i64 (X.pos : Int))) (cellsN (nodeP 4 [] l X.pos) (.slice A l.length ca)) (nodeP 4 [] l X.pos) from
            OwN.of (by constructor <;> simp [N.kind]) (by have := Hat.out; constructor <;> simp [N.spot] <;> omega) (by simp [N.text]) ⟨by constructor <;> simp [V.kind, V.zero, N.val], by constructor <;> simp [V.num, V.zero, N.val], by simp [V.str, V.zero, N.val], rfl, rfl⟩ (by simp only [N.kids]; omega) hK10)
          have x9 : w9.cell? ⟨w.heap.size + 1 + 1, 9, none⟩ = some (.int .i64 0) := hB.cell 9 rfl
          have l9 : w9.frozen? ⟨w.heap.size + 1 + 1, 9, none⟩ = false := hB.melt 9
          have hf3 := tok_f3 X
          clear hr hP hF hset hbx hK10 hK hB
          have HE := Lib.hid (EndN.ret hlg hlt HQ3.out HP10.out HF10.out HO10.out (show w.heap.size ≤ w.heap.size + 1 by omega) (by omega))
          obtain ⟨r0, r1, r2, r3, r4, r5, r6, r7, r8, r9⟩ := ten_cells HX10.out
          obtain ⟨m0, m1, m2, m3, m4, m5, m6, m7, m8, m9⟩ := ten_melt HX10.out
          obtain ⟨t0, t1, t2, t3, t4, t5, t6, t7, t8, t9⟩ := ten_cells HB10.out
          go_wp2_with fail
          refine bodyPost_ret (v := valO (nodeP 4 [] l X.pos) (.slice A l.length ca)) (by simp [results, Tryz.results129, go_sem, r0, r1, r2, r3, r4, r5, r6, r7, r8, r9, N.kind, N.text, N.val, N.flag, N.kids, N.spot, V.zero, V.kind, V.num, V.str]) rfl ?_
          exact HE.out
end
end Go.Proofs.YtlnhhffhmeekoaaGreatDoor
namespace Go.Proofs.YtlnhhffhmeekoaaGreatDoor
open Go.RowKit Go.IntWalk
section
variable {T : List Tok} {gt cap g k o f : Nat} {w : World}
theorem param_ent (a : Array Value) (w : World) : (callFunc 128 a).run Tryz.prog w = .ok (.enter 128 a) w := by kernel_rfl
set_option maxRecDepth 20000 in
set_option maxHeartbeats 1000000 in
theorem k_param (hT : TkOk T) (h : PSt T gt cap g k o w) (bp : Nat) (hbp : Box bp #[pPtr g] 52 w) :
    Calls Tryz.prog 128 #[pPtr bp] w (EndN T gt cap g o w (pItem (f + 1) 2 o (T.drop k))) := by
  have hs : pItem (f + 1) 2 o (T.drop k) = (nameT (T.drop k)).bind fun t r => .ok (nodeP 3 t.text [] t.pos) r := by rw [pItem, if_neg (by omega), if_neg (by omega)]
  rw [hs]
  clear hs
  generalize hR : ((nameT (T.drop k)).bind fun t r => PR.ok (nodeP 3 t.text [] t.pos) r) = R at *
  rw [nameT, hd_tkAt T k h.lt, drop_tail] at hR
  have hat := hT.at h.lt
  have hlg := h.box.lt
  have hlt := h.ltt
  have hal := p_al w (.cells zNode 29)
  have HB1 := Lib.hid (Box.new w zNode 29)
  have HS1 := Lib.hid hal
  have H1 := Lib.hid (h.below hal)
  have c0 : ∀ X, (w.alloc X).cell? ⟨bp, 0, none⟩ = some (pPtr g) := fun X => (hbp.below (p_al w X)).cell 0 rfl
  have HNm := Lib.hid (fun W (hW : PSt T gt cap g k o W) hn => p_name_yes hT hW hn)
  have Hat := Lib.hid hat
  cases hnm : (((tkAt T k).kind : Int) != 1) with
  | true =>
    have HQ := Lib.hid (show R = .bad 170 (tkAt T k).pos by rw [← hR, if_neg (by simp at hnm; omega)]; rfl)
    clear hR h hbp hal hat
    go_enter Tryz.func128, Tryz.ntmps128
    go_wp2_with fail
    refine (p_name_no H1.out hnm).mono ?_
    rintro e w2 ⟨rfl, hb⟩
    have HF := Lib.hid (Fr.of_below (ok := fun b => g = b) (bthen HS1.out hb))
    clear hb
    go_wp2_with fail
    exact ⟨rfl, .inl ⟨_, _, HQ.out, rfl, HF.out⟩⟩
  | false =>
    have HQ := Lib.hid (show R = .ok (nodeP 3 (tkAt T k).text [] (tkAt T k).pos) (T.drop (k + 1)) by rw [← hR, if_pos (by simp at hnm; omega)]; rfl)
    have HNm2 := Lib.hid (fun W (hW : PSt T gt cap g k o W) => HNm.out W hW hnm)
    clear hR h hbp hal hat HNm hnm
    generalize tkAt T k = X at *
    go_enter Tryz.func128, Tryz.ntmps128
    go_wp2_with fail
    refine (HNm2.out _ H1.out).mono ?_
    rintro e w2 ⟨rfl, hP, hF⟩
    have hal := p_al w2 (.cells #[.int .i64 (X.kind : Int), .string ⟨X.text.toArray⟩, .int .i64 (X.n : Int), .int .i64 (X.pos : Int)] 41)
    have hB2 := (HB1.out.fr hF (by omega))
    have hl2 := hB2.lt
    have hX3 := hB2.below hal
    have hT3 := Box.new w2 #[.int .i64 (X.kind : Int), .string ⟨X.text.toArray⟩, .int .i64 (X.n : Int), .int .i64 (X.pos : Int)] 41
    have HE := Lib.hid (EndN.ret hlg hlt HQ.out (hP.below hal) (((Fr.of_below (ok := fun b => g = b) HS1.out).trans hF).below hal) (leafOk (fun b => w.heap.size + 1 ≤ b) _ 3 (by omega) X (by have := Hat.out; omega) (by have := Hat.out; omega)) (show w.heap.size ≤ w.heap.size by omega) (by omega))
    have r0 : ∀ X, (w2.alloc X).cell? ⟨w.heap.size, 0, none⟩ = some (.int .i64 0) := fun X => (hB2.below (p_al w2 X)).cell 0 rfl
    have m0 : ∀ X, (w2.alloc X).frozen? ⟨w.heap.size, 0, none⟩ = false := fun X => (hB2.below (p_al w2 X)).melt 0
    have r1 : ∀ X, (w2.alloc X).cell? ⟨w.heap.size, 1, none⟩ = some (.string ⟨#[]⟩) := fun X => (hB2.below (p_al w2 X)).cell 1 rfl
    have m1 : ∀ X, (w2.alloc X).frozen? ⟨w.heap.size, 1, none⟩ = false := fun X => (hB2.below (p_al w2 X)).melt 1
    have r2 : ∀ X, (w2.alloc X).cell? ⟨w.heap.size, 2, none⟩ = some (.int .i64 0) := fun X => (hB2.below (p_al w2 X)).cell 2 rfl
    have m2 : ∀ X, (w2.alloc X).frozen? ⟨w.heap.size, 2, none⟩ = false := fun X => (hB2.below (p_al w2 X)).melt 2
    have r3 : ∀ X, (w2.alloc X).cell? ⟨w.heap.size, 3, none⟩ = some (.int .i64 0) := fun X => (hB2.below (p_al w2 X)).cell 3 rfl
    have m3 : ∀ X, (w2.alloc X).frozen? ⟨w.heap.size, 3, none⟩ = false := fun X => (hB2.below (p_al w2 X)).melt 3
    have r4 : ∀ X, (w2.alloc X).cell? ⟨w.heap.size, 4, none⟩ = some (.string ⟨#[]⟩) := fun X => (hB2.below (p_al w2 X)).cell 4 rfl
    have m4 : ∀ X, (w2.alloc X).frozen? ⟨w.heap.size, 4, none⟩ = false := fun X => (hB2.below (p_al w2 X)).melt 4
    have r5 : ∀ X, (w2.alloc X).cell? ⟨w.heap.size, 5, none⟩ = some (.slice none 0 0) := fun X => (hB2.below (p_al w2 X)).cell 5 rfl
    have m5 : ∀ X, (w2.alloc X).frozen? ⟨w.heap.size, 5, none⟩ = false := fun X => (hB2.below (p_al w2 X)).melt 5
    have r6 : ∀ X, (w2.alloc X).cell? ⟨w.heap.size, 6, none⟩ = some (.slice none 0 0) := fun X => (hB2.below (p_al w2 X)).cell 6 rfl
    have m6 : ∀ X, (w2.alloc X).frozen? ⟨w.heap.size, 6, none⟩ = false := fun X => (hB2.below (p_al w2 X)).melt 6
    have r7 : ∀ X, (w2.alloc X).cell? ⟨w.heap.size, 7, none⟩ = some (.bool false) := fun X => (hB2.below (p_al w2 X)).cell 7 rfl
    have m7 : ∀ X, (w2.alloc X).frozen? ⟨w.heap.size, 7, none⟩ = false := fun X => (hB2.below (p_al w2 X)).melt 7
    have r8 : ∀ X, (w2.alloc X).cell? ⟨w.heap.size, 8, none⟩ = some (.slice none 0 0) := fun X => (hB2.below (p_al w2 X)).cell 8 rfl
    have m8 : ∀ X, (w2.alloc X).frozen? ⟨w.heap.size, 8, none⟩ = false := fun X => (hB2.below (p_al w2 X)).melt 8
    have r9 : ∀ X, (w2.alloc X).cell? ⟨w.heap.size, 9, none⟩ = some (.int .i64 0) := fun X => (hB2.below (p_al w2 X)).cell 9 rfl
    have m9 : ∀ X, (w2.alloc X).frozen? ⟨w.heap.size, 9, none⟩ = false := fun X => (hB2.below (p_al w2 X)).melt 9
    clear hP hF hB2 hX3 hT3 hal hl2
    go_wp2_with fail
    refine bodyPost_ret (v := valO (nodeP 3 X.text [] X.pos) (.slice none 0 0)) (by simp [results, Tryz.results128, go_sem, r0, r1, r2, r3, r4, r5, r6, r7, r8, r9, N.kind, N.text, N.val, N.flag, N.kids, N.spot, V.zero, V.kind, V.num, V.str]) rfl ?_
    exact HE.out
end
end Go.Proofs.YtlnhhffhmeekoaaGreatDoor
