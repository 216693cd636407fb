/- The parser's walks: binary. The parser's walks: expr, row. -/
import Derived.Test.YtlnhhffhmeekoaaGreatDoorGParB
import Derived.Deep.LoopGhost
import Derived.Deep.RegionHeld3
import Derived.Deep.RegionHeld2
set_option linter.unusedVariables false
set_option linter.unusedSimpArgs false
namespace Go.Proofs.YtlnhhffhmeekoaaGreatDoor
open Go.RowKit Go.IntWalk

section
variable {T : List Tok} {gt cap g k o f : Nat} {w : World}
theorem k_un (hT : TkOk T) (ih : KnotE T gt cap g f) (h : PSt T gt cap g k o w) (hne : pUn (f + 1) o (T.drop k) ≠ .out) :
    Calls Tryz.prog 111 #[pPtr g] w (EndN T gt cap g o w (pUn (f + 1) o (T.drop k))) := by
  cases h1 : isT [45] (T.drop k) with
  | true => exact k_un_a hT ih h h1 hne
  | false =>
    cases h2 : isT [33] (T.drop k) with
    | true => exact k_un_b hT ih h h1 h2 hne
    | false => exact k_un_plain ih h h1 h2 hne
theorem EndN.of_bad {r : PR N} {c p : Nat} {e : Ending} {W' : World} (h : EndN T gt cap g o w r e W') (hr : r = .bad c p) : e = stopV c p ∧ Fr (fun b => g = b) w W' := by
  rcases h with ⟨c', p', h1, h2, h3⟩ | ⟨n, lv, k', h1, _⟩
  · rw [hr] at h1; injection h1 with h4 h5; subst h4 h5; exact ⟨h2, h3⟩
  · rw [hr] at h1; cases h1
theorem EndN.of_ok {r : PR N} {n : N} {ts : List Tok} {e : Ending} {W' : World} (h : EndN T gt cap g o w r e W') (hr : r = .ok n ts) : ∃ A c k', ts = T.drop k' ∧ e = .returned (valO n (.slice A n.kids.length c)) ∧ PSt T gt cap g k' o W' ∧ Fr (fun b => g = b) w W' ∧ OwN (fun b => w.heap.size ≤ b) W' (cellsN n (.slice A n.kids.length c)) n := by
  rcases h with ⟨c', p', h1, h2, h3⟩ | ⟨n', lv, k', h1, h2, h3, h4, h5⟩
  · rw [hr] at h1; cases h1
  · rw [hr] at h1
    injection h1 with h6 h7
    subst h6
    obtain ⟨A, c, rfl⟩ := h5.lvs
    exact ⟨A, c, k', h7, h2, h3, h4, h5⟩
set_option maxRecDepth 20000 in
set_option maxHeartbeats 1000000 in
theorem k_bin_hi (ih : KnotE T gt cap g f) (h : PSt T gt cap g k o w) (hne : pBin (f + 1) 6 o (T.drop k) ≠ .out) :
    Calls Tryz.prog 63 #[pPtr g, .int .i64 6] w (EndN T gt cap g o w (pBin (f + 1) 6 o (T.drop k))) := by
  have hs : pBin (f + 1) 6 o (T.drop k) = pUn f o (T.drop k) := by rw [pBin, if_pos (by omega)]
  rw [hs] at hne ⊢
  clear hs
  have HX0 := Lib.hid (Box.new w zNode 29)
  have HI := Lib.hid (ih.un o k _ (h.below (p_al w (.cells zNode 29))) hne)
  have hlg := h.box.lt
  have hlt := h.ltt
  clear h hne ih
  go_enter Tryz.func63, Tryz.ntmps63
  go_wp2_with fail
  refine HI.out.mono ?_
  rintro e w3 (⟨c, p, hr, rfl, hF⟩ | ⟨n, lv, k', hr, rfl, hP, hF, hO⟩)
  · have HR := Lib.hid hr
    have HF := Lib.hid ((Fr.of_below (p_al w _)).trans hF)
    clear hr hF
    go_wp2_with fail
    exact ⟨rfl, .inl ⟨c, p, HR.out, rfl, HF.out⟩⟩
  · obtain ⟨A, ca, rfl⟩ := hO.lvs
    have HX := Lib.hid (HX0.out.fr hF (fun e => by omega))
    have HE := Lib.hid (EndN.ret hlg hlt hr hP ((Fr.of_below (p_al w _)).trans hF) hO (Nat.le_refl w.heap.size) HX0.out.lt)
    clear hr hP hF hO
    obtain ⟨r0, r1, r2, r3, r4, r5, r6, r7, r8, r9⟩ := ten_cells HX.out
    obtain ⟨m0, m1, m2, m3, m4, m5, m6, m7, m8, m9⟩ := ten_melt HX.out
    go_wp2_with fail
    refine bodyPost_ret (v := valO n (.slice A n.kids.length ca)) (by simp [results, Tryz.results63, go_sem, r0, r1, r2, r3, r4, r5, r6, r7, r8, r9]) rfl ?_
    exact HE.out
theorem wrap_succ (m : Nat) (h : m ≤ 5) : IntKind.i64.wrap ((m : Int) + 1) = ((m + 1 : Nat) : Int) := by
  rw [i64_in _ ⟨by omega, by omega⟩]; omega
/-- a token's box and a node's: their cells -/
def Cells14 (tb nb : Nat) (a0 a1 a2 a3 c0 c1 c2 c3 c4 c5 c6 c7 c8 c9 : Value) (W : World) : Prop :=
  W.cell? ⟨tb, 0, none⟩ = some a0 ∧ W.cell? ⟨tb, 1, none⟩ = some a1 ∧ W.cell? ⟨tb, 2, none⟩ = some a2 ∧ W.cell? ⟨tb, 3, none⟩ = some a3 ∧ W.cell? ⟨nb, 0, none⟩ = some c0 ∧ W.cell? ⟨nb, 1, none⟩ = some c1 ∧ W.cell? ⟨nb, 2, none⟩ = some c2 ∧ W.cell? ⟨nb, 3, none⟩ = some c3 ∧ W.cell? ⟨nb, 4, none⟩ = some c4 ∧
    W.cell? ⟨nb, 5, none⟩ = some c5 ∧ W.cell? ⟨nb, 6, none⟩ = some c6 ∧ W.cell? ⟨nb, 7, none⟩ = some c7 ∧ W.cell? ⟨nb, 8, none⟩ = some c8 ∧ W.cell? ⟨nb, 9, none⟩ = some c9
theorem cells14 {tb nb : Nat} {a0 a1 a2 a3 c0 c1 c2 c3 c4 c5 c6 c7 c8 c9 : Value} {s t : TypeId} {W : World} (h : Box tb #[a0, a1, a2, a3] s W) (h' : Box nb #[c0, c1, c2, c3, c4, c5, c6, c7, c8, c9] t W) : Cells14 tb nb a0 a1 a2 a3 c0 c1 c2 c3 c4 c5 c6 c7 c8 c9 W :=
  ⟨h.cell 0 rfl, h.cell 1 rfl, h.cell 2 rfl, h.cell 3 rfl, h'.cell 0 rfl, h'.cell 1 rfl, h'.cell 2 rfl, h'.cell 3 rfl, h'.cell 4 rfl, h'.cell 5 rfl, h'.cell 6 rfl, h'.cell 7 rfl, h'.cell 8 rfl, h'.cell 9 rfl⟩
/-- binary's loop: the node that is there, the tokens behind it -/
structure BinL (T : List Tok) (gt cap g o m nb f : Nat) (w : World) (R : PR N) (j : Nat) (W : World) : Prop where
  le : j ≤ f
  ex : ∃ n A c k', PSt T gt cap g k' o W ∧ Fr (fun b => g = b) w W ∧ Box w.heap.size zNode 29 W ∧ Box nb (cellsN n (.slice A n.kids.length c)).toArray 29 W ∧ OwN (fun b => w.heap.size < b ∧ b ≠ nb) W (cellsN n (.slice A n.kids.length c)) n ∧ pBinT j m o n (T.drop k') = R
set_option maxRecDepth 20000 in
set_option maxHeartbeats 4000000 in
theorem k_bin_lo (hT : TkOk T) (ih : ∀ j, j ≤ f → KnotE T gt cap g j) (m : Nat) (hm1 : 1 ≤ m) (hm5 : m ≤ 5) (h : PSt T gt cap g k o w) (hne : pBin (f + 1) m o (T.drop k) ≠ .out) :
    Calls Tryz.prog 63 #[pPtr g, .int .i64 (m : Int)] w (EndN T gt cap g o w (pBin (f + 1) m o (T.drop k))) := by
  have hs : pBin (f + 1) m o (T.drop k) = (pBin f (m + 1) o (T.drop k)).bind fun n r => pBinT f m o n r := by rw [pBin, if_neg (by omega)]
  rw [hs] at hne ⊢
  clear hs
  have hin : pBin f (m + 1) o (T.drop k) ≠ .out := fun e => hne (by rw [e]; rfl)
  have HX0 := Lib.hid (Box.new w zNode 29)
  have HI := Lib.hid ((ih f (Nat.le_refl f)).bin (m + 1) o k ((m : Int) + 1) _ (by omega) (by omega) (by omega) (h.below (p_al w (.cells zNode 29))) hin)
  have hlg := h.box.lt
  have hlt := h.ltt
  have Hih := Lib.hid ih
  have HNe := Lib.hid hne
  clear h hne ih hin
  have hM1 : (1 : Int) ≤ (m : Int) := by omega
  have hM5 : (m : Int) ≤ 5 := by omega
  have hM6 : decide ((5 : Int) < (m : Int)) = false := by simp; omega
  generalize hR : (pBin f (m + 1) o (T.drop k)).bind (fun n r => pBinT f m o n r) = R at *
  have HRR := Lib.hid hR
  clear hR
  go_enter Tryz.func63, Tryz.ntmps63
  go_wp2_with fail
  refine HI.out.mono ?_
  rintro e w3 (⟨c, p, hr, rfl, hF⟩ | ⟨n, lv, k', hr, rfl, hP, hF, hO⟩)
  · have HR := Lib.hid hr
    have HF := Lib.hid ((Fr.of_below (p_al w _)).trans hF)
    clear hr hF
    go_wp2_with fail
    exact ⟨rfl, .inl ⟨c, p, by rw [← HRR.out, HR.out]; rfl, rfl, HF.out⟩⟩
  · obtain ⟨A, ca, rfl⟩ := hO.lvs
    rw [hr] at HRR
    have hal := p_al w3 (.cells (cellsN n (.slice A n.kids.length ca)).toArray 29)
    have hz := HX0.out.lt
    have hz3 := hF.size
    have HL : BinL T gt cap g o m w3.heap.size f w R f (w3.alloc (.cells (cellsN n (.slice A n.kids.length ca)).toArray 29)) :=
      ⟨Nat.le_refl _, n, A, ca, k', hP.below hal, ((Fr.of_below (p_al w _)).trans hF).below hal, (HX0.out.fr hF (fun e => by omega)).below hal, Box.new _ _ _, ((hO.lt).below hal).imp (fun b _ h => by omega), HRR.out⟩
    have HLL := Lib.hid HL
    clear HL hr hP hF hO HRR
    go_wp2_with fail
    go_loopg [] f (fun j wr => BinL T gt cap g o m w3.heap.size f w R j wr)
    case atStart => exact HLL.out
    case round =>
      obtain ⟨hle, n2, A2, c2, k2, hP, hF, hX, hB, hO, hR2⟩ := hrel
      clear HLL hal
      cases gk with
      | zero => exact absurd (by rw [← hR2, pBinT]) HNe.out
      | succ j =>
      have hk2 := hP.lt
      rw [pBinT, drop_tail, hd_tkAt T k2 hk2] at hR2
      have hnk := fun h0 => hT.next hk2 h0
      have hat := hT.at hk2
      have HP := Lib.hid hP
      have HF := Lib.hid hF
      have HX := Lib.hid hX
      have HB := Lib.hid hB
      have HO := Lib.hid hO
      have HR2 := Lib.hid hR2
      have Hnk := Lib.hid hnk
      have Hat := Lib.hid hat
      have hnb := hB.lt
      clear hP hF hX hB hO hR2 hnk hat
      go_wp2_with fail
      refine (p_peek HP.out).mono ?_
      rintro e w4 ⟨rfl, hb4⟩
      have HS4 := Lib.hid hb4
      clear hb4
      generalize hXX : tkAt T k2 = X at *
      have HXX := Lib.hid hXX
      clear hXX
      go_wp2_with fail
      refine (p_binds X _).mono ?_
      rintro e w5 ⟨rfl, hb5⟩
      have HS5 := Lib.hid (bthen HS4.out hb5)
      clear hb5
      cases hbd : ((bindT X : Int) == (m : Int)) with
      | false =>
        have HQ := Lib.hid (show R = .ok n2 (T.drop k2) by rw [← HR2.out, if_neg (by simp at hbd; omega)])
        have hPe := HP.out.below HS5.out
        have HE := Lib.hid (EndN.ret hlg hlt HQ.out hPe (HF.out.below HS5.out) ((HO.out.below HS5.out).imp (fun b _ h => Nat.succ_le_of_lt h.1)) (Nat.le_refl w.heap.size) (Nat.lt_succ_self _))
        obtain ⟨r0, r1, r2, r3, r4, r5, r6, r7, r8, r9⟩ := ten_cells (HX.out.below HS5.out)
        obtain ⟨m0, m1, m2, m3, m4, m5, m6, m7, m8, m9⟩ := ten_melt (HX.out.below HS5.out)
        obtain ⟨t0, t1, t2, t3, t4, t5, t6, t7, t8, t9⟩ := ten_cells (HB.out.below HS5.out)
        clear hPe
        go_wp2_with fail
        refine bodyPost_ret (v := valO n2 (.slice A2 n2.kids.length c2)) (by simp [results, Tryz.results63, go_sem, r0, r1, r2, r3, r4, r5, r6, r7, r8, r9]) rfl ?_
        exact HE.out
      | true =>
        have hbm : bindT X = m := by simp at hbd; omega
        have hk3 : k2 + 1 < T.length := Hnk.out (fun h0 => by unfold bindT at hbm; rw [if_neg (by omega)] at hbm; omega)
        have HQ := Lib.hid (show (pBin j (m + 1) o (T.drop (k2 + 1))).bind (fun mm r => if m = 3 then .ok (nodeP 17 X.text [n2, mm] X.pos) r else pBinT j m o (nodeP 17 X.text [n2, mm] X.pos) r) = R by rw [← HR2.out, if_pos hbm])
        clear hbm
        go_wp2_with fail
        refine (p_next (HP.out.below HS5.out) hk3).mono ?_
        rintro e w6 ⟨rfl, hP6, hF6⟩
        rw [HXX.out]
        have hz6 := hF6.size
        have HP6 := Lib.hid hP6
        have HF6 := Lib.hid ((HF.out.below HS5.out).trans hF6)
        have HX6 := Lib.hid ((HX.out.below HS5.out).fr hF6 (by omega))
        have HB6 := Lib.hid ((HB.out.below HS5.out).fr hF6 (by omega))
        have HO6 := Lib.hid ((HO.out.below HS5.out).fr hF6 (fun b _ h1 h2 => by omega))
        clear hP6 hF6
        go_wp2_with fail
        have hal := p_al w6 (.cells #[.int .i64 (X.kind : Int), .string ⟨X.text.toArray⟩, .int .i64 (X.n : Int), .int .i64 (X.pos : Int)] 41)
        have HT7 := Lib.hid (Box.new w6 #[.int .i64 (X.kind : Int), .string ⟨X.text.toArray⟩, .int .i64 (X.n : Int), .int .i64 (X.pos : Int)] 41)
        have HP7 := Lib.hid (HP6.out.below hal)
        have HF7 := Lib.hid (HF6.out.below hal)
        have HX7 := Lib.hid (HX6.out.below hal)
        have HB7 := Lib.hid (HB6.out.below hal)
        have HO7 := Lib.hid (HO6.out.below hal)
        have hlb := HB6.out.lt
        clear hal HP6 HF6 HX6 HB6 HO6 HS4 HS5
        generalize (w6.alloc (.cells #[.int .i64 (X.kind : Int), .string ⟨X.text.toArray⟩, .int .i64 (X.n : Int), .int .i64 (X.pos : Int)] 41)) = w7 at *
        cases hzz : pBin j (m + 1) o (T.drop (k2 + 1)) with
        | out => exact absurd (by rw [← HQ.out, hzz]; rfl) HNe.out
        | bad e q =>
          have HI2 := Lib.hid (fun W hW => ((Hih.out j (by omega)).bin (m + 1) o (k2 + 1) (IntKind.i64.wrap ((m : Int) + 1)) W (wrap_succ m hm5) (by omega) (by omega) hW (by rw [hzz]; simp)).mono fun e1 W' h1 => h1.of_bad hzz)
          have HQ2 := Lib.hid (show R = .bad e q by rw [← HQ.out, hzz]; rfl)
          clear hzz
          have HS := Lib.hid (show ∀ W, W.heap = w7.heap → Cells14 w6.heap.size w3.heap.size _ _ _ _ _ _ _ _ _ _ _ _ _ _ W from fun W hW => cells14 (show Box w6.heap.size _ _ W from HT7.out.of (by rw [hW])) (show Box w3.heap.size _ _ W from HB7.out.of (by rw [hW])))
          refine wp_region_held_drew (S := Cells14 w6.heap.size w3.heap.size _ _ _ _ _ _ _ _ _ _ _ _ _ _) (by kernel_rfl) (HS.out w7.drew rfl) (fun hHeld => ?_)
          refine wpAnyH_take (i := 0) (v := ?va0) rfl (by kernel_rfl) (by kernel_rfl) (by kernel_rfl) (fun _ _ _ h => h) (Or.inl ⟨by rfl, ?ya0⟩) (by assumption) ?ra0
          case ya0 => (intro W hSw; (obtain ⟨a0, a1, a2, a3, c0, c1, c2, c3, c4, c5, c6, c7, c8, c9⟩ := hSw); go_simp; try with_reducible rfl)
          try simp only [Act.put, List.setIfInBounds_toArray, List.set_cons_zero, List.set_cons_succ]
          refine wpAnyH_take (i := 1) (v := ?va1) rfl (by kernel_rfl) (by kernel_rfl) (by kernel_rfl) (fun _ _ _ h => h) (Or.inl ⟨by rfl, ?ya1⟩) (by assumption) ?ra1
          case ya1 => (intro W hSw; (obtain ⟨a0, a1, a2, a3, c0, c1, c2, c3, c4, c5, c6, c7, c8, c9⟩ := hSw); go_simp; try with_reducible rfl)
          try simp only [Act.put, List.setIfInBounds_toArray, List.set_cons_zero, List.set_cons_succ]
          refine wpAnyH_take (i := 2) (v := ?va2) rfl (by kernel_rfl) (by kernel_rfl) (by kernel_rfl) (fun _ _ _ h => h) (Or.inl ⟨by rfl, ?ya2⟩) (by assumption) ?ra2
          case ya2 => (intro W hSw; (obtain ⟨a0, a1, a2, a3, c0, c1, c2, c3, c4, c5, c6, c7, c8, c9⟩ := hSw); go_simp; try with_reducible rfl)
          try simp only [Act.put, List.setIfInBounds_toArray, List.set_cons_zero, List.set_cons_succ]
          refine wpAnyH_take (i := 3) (v := ?va3) rfl (by kernel_rfl) (by kernel_rfl) (by kernel_rfl) (fun _ _ _ h => h) (Or.inl ⟨by rfl, ?ya3⟩) (by assumption) ?ra3
          case ya3 => (intro W hSw; (obtain ⟨a0, a1, a2, a3, c0, c1, c2, c3, c4, c5, c6, c7, c8, c9⟩ := hSw); go_simp; try with_reducible rfl)
          try simp only [Act.put, List.setIfInBounds_toArray, List.set_cons_zero, List.set_cons_succ]
          refine wpAnyH_take (i := 4) (v := ?va4) rfl (by kernel_rfl) (by kernel_rfl) (by kernel_rfl) (fun _ _ _ h => h) (Or.inl ⟨by rfl, ?ya4⟩) (by assumption) ?ra4
          case ya4 => (intro W hSw; (obtain ⟨a0, a1, a2, a3, c0, c1, c2, c3, c4, c5, c6, c7, c8, c9⟩ := hSw); go_simp; try with_reducible rfl)
          try simp only [Act.put, List.setIfInBounds_toArray, List.set_cons_zero, List.set_cons_succ]
          refine wpAnyH_take (i := 5) (v := ?va5) rfl (by kernel_rfl) (by kernel_rfl) (by kernel_rfl) (fun _ _ _ h => h) (Or.inl ⟨by rfl, ?ya5⟩) (by assumption) ?ra5
          case ya5 => (intro W hSw; (obtain ⟨a0, a1, a2, a3, c0, c1, c2, c3, c4, c5, c6, c7, c8, c9⟩ := hSw); go_simp; try with_reducible rfl)
          try simp only [Act.put, List.setIfInBounds_toArray, List.set_cons_zero, List.set_cons_succ]
          refine wpAnyH_take (i := 6) (v := ?va6) rfl (by kernel_rfl) (by kernel_rfl) (by kernel_rfl) (fun _ _ _ h => h) (Or.inl ⟨by rfl, ?ya6⟩) (by assumption) ?ra6
          case ya6 => (intro W hSw; (obtain ⟨a0, a1, a2, a3, c0, c1, c2, c3, c4, c5, c6, c7, c8, c9⟩ := hSw); go_simp; try with_reducible rfl)
          try simp only [Act.put, List.setIfInBounds_toArray, List.set_cons_zero, List.set_cons_succ]
          refine wpAnyH_take (i := 7) (v := ?va7) rfl (by kernel_rfl) (by kernel_rfl) (by kernel_rfl) (fun _ _ _ h => h) (Or.inl ⟨by rfl, ?ya7⟩) (by assumption) ?ra7
          case ya7 => (intro W hSw; (obtain ⟨a0, a1, a2, a3, c0, c1, c2, c3, c4, c5, c6, c7, c8, c9⟩ := hSw); go_simp; try with_reducible rfl)
          try simp only [Act.put, List.setIfInBounds_toArray, List.set_cons_zero, List.set_cons_succ]
          refine wpAnyH_ready (rs := [8]) (by kernel_rfl) (by simp) ?_
          refine AllReadyH.cons rfl (fun K hK => ?_) AllReadyH.nil
          go_simp
          refine (HI2.out _ (HP7.out.same (W' := w7.drew) rfl)).mono ?_
          rintro e w8 ⟨rfl, hF8⟩
          exact ⟨rfl, .inl ⟨_, _, HQ2.out, rfl, HF7.out.drew.trans hF8⟩⟩
        | ok mm ts =>
          have HI2 := Lib.hid (fun W hW => ((Hih.out j (by omega)).bin (m + 1) o (k2 + 1) (IntKind.i64.wrap ((m : Int) + 1)) W (wrap_succ m hm5) (by omega) (by omega) hW (by rw [hzz]; simp)).mono fun e1 W' h1 => h1.of_ok hzz)
          have HQ2 := Lib.hid (show (if m = 3 then .ok (nodeP 17 X.text [n2, mm] X.pos) ts else pBinT j m o (nodeP 17 X.text [n2, mm] X.pos) ts) = R by rw [← HQ.out, hzz]; rfl)
          clear hzz
          have HS := Lib.hid (show ∀ W, W.heap = w7.heap → W.cell? ⟨w6.heap.size, 1, none⟩ = some (.string ⟨X.text.toArray⟩) ∧ W.cell? ⟨w6.heap.size, 3, none⟩ = some (.int .i64 (X.pos : Int)) from fun W hW => ⟨(show Box w6.heap.size _ _ W from HT7.out.of (by rw [hW])).cell 1 rfl, (show Box w6.heap.size _ _ W from HT7.out.of (by rw [hW])).cell 3 rfl⟩)
          obtain ⟨c0, c1, c2', c3, c4, c5, c6, c7, c8, c9⟩ := ten_cells (show Box w3.heap.size _ _ w7.drew from HB7.out)
          refine wp_region_held_drew (S := fun W => W.cell? ⟨w6.heap.size, 1, none⟩ = some (.string ⟨X.text.toArray⟩) ∧ W.cell? ⟨w6.heap.size, 3, none⟩ = some (.int .i64 (X.pos : Int))) (by kernel_rfl) (HS.out w7.drew rfl) (fun hHeld => ?_)
          refine wpAnyH_take (i := 0) (v := ?vb0) rfl (by kernel_rfl) (by kernel_rfl) (by kernel_rfl) (fun _ _ _ h => h) (Or.inl ⟨by rfl, ?yb0⟩) (by assumption) ?rb0
          case yb0 => (intro W hSw; (obtain ⟨a1, a3⟩ := hSw); go_simp; try with_reducible rfl)
          try simp only [Act.put, List.setIfInBounds_toArray, List.set_cons_zero, List.set_cons_succ]
          refine wpAnyH_take (i := 1) (v := ?vb1) rfl (by kernel_rfl) (by kernel_rfl) (by kernel_rfl) (fun _ _ _ h => h) (Or.inl ⟨by rfl, ?yb1⟩) (by assumption) ?rb1
          case yb1 => (intro W hSw; (obtain ⟨a1, a3⟩ := hSw); go_simp; try with_reducible rfl)
          try simp only [Act.put, List.setIfInBounds_toArray, List.set_cons_zero, List.set_cons_succ]
          refine wpAnyH_take (i := 2) (v := ?vb2) rfl (by kernel_rfl) (by kernel_rfl) (by kernel_rfl) (fun _ _ _ h => h) (Or.inl ⟨by rfl, ?yb2⟩) (by assumption) ?rb2
          case yb2 => (intro W hSw; (obtain ⟨a1, a3⟩ := hSw); go_simp; try with_reducible rfl)
          try simp only [Act.put, List.setIfInBounds_toArray, List.set_cons_zero, List.set_cons_succ]
          refine wpAnyH_take (i := 3) (v := ?vb3) rfl (by kernel_rfl) (by kernel_rfl) (by kernel_rfl) (fun _ _ _ h => h) (Or.inl ⟨by rfl, ?yb3⟩) (by assumption) ?rb3
          case yb3 => (intro W hSw; (obtain ⟨a1, a3⟩ := hSw); go_simp; try with_reducible rfl)
          try simp only [Act.put, List.setIfInBounds_toArray, List.set_cons_zero, List.set_cons_succ]
          refine wpAnyH_take (i := 5) (v := ?vb5) rfl (by kernel_rfl) (by kernel_rfl) (by kernel_rfl) (fun _ _ _ h => h) (Or.inl ⟨by rfl, ?yb5⟩) (by assumption) ?rb5
          case yb5 => (intro W hSw; (obtain ⟨a1, a3⟩ := hSw); go_simp; try with_reducible rfl)
          try simp only [Act.put, List.setIfInBounds_toArray, List.set_cons_zero, List.set_cons_succ]
          refine wpAnyH_take (i := 6) (v := ?vb6) rfl (by kernel_rfl) (by kernel_rfl) (by kernel_rfl) (fun _ _ _ h => h) (Or.inl ⟨by rfl, ?yb6⟩) (by assumption) ?rb6
          case yb6 => (intro W hSw; (obtain ⟨a1, a3⟩ := hSw); go_simp; try with_reducible rfl)
          try simp only [Act.put, List.setIfInBounds_toArray, List.set_cons_zero, List.set_cons_succ]
          refine wpAnyH_take (i := 7) (v := ?vb7) rfl (by kernel_rfl) (by kernel_rfl) (by kernel_rfl) (fun _ _ _ h => h) (Or.inl ⟨by rfl, ?yb7⟩) (by assumption) ?rb7
          case yb7 => (intro W hSw; (obtain ⟨a1, a3⟩ := hSw); go_simp; try with_reducible rfl)
          try simp only [Act.put, List.setIfInBounds_toArray, List.set_cons_zero, List.set_cons_succ]
          refine wpAnyH_ready (rs := [4, 8]) (by kernel_rfl) (by simp) ?_
          refine AllReadyH.cons rfl (fun K hK => ?_) (AllReadyH.cons rfl (fun K hK => ?_) AllReadyH.nil)
          · go_simp
            refine hK.out _ _ (by exact ⟨HT7.out.cell 1 rfl, HT7.out.cell 3 rfl⟩) (fun hHeld => ?_)
            clear hK K
            try simp only [Act.put, List.setIfInBounds_toArray, List.set_cons_zero, List.set_cons_succ]
            refine wpAnyH_ready (rs := [8]) (by kernel_rfl) (by simp) ?_
            refine AllReadyH.cons rfl (fun K hK => ?_) AllReadyH.nil
            go_simp
            refine (HI2.out _ (HP7.out.same (W' := w7.drew) rfl)).mono ?_
            rintro e w8 ⟨A8, c8, k8, rfl, rfl, hP8, hF8, hO8⟩
            have HT8 := Lib.hid (Box.fr (show Box w6.heap.size _ _ w7.drew from HT7.out) hF8 (by omega))
            have HB8 := Lib.hid (Box.fr (show Box w3.heap.size _ _ w7.drew from HB7.out) hF8 (by omega))
            have HX8 := Lib.hid (Box.fr (show Box w.heap.size _ _ w7.drew from HX7.out) hF8 (by omega))
            have HP8 := Lib.hid hP8
            have HF8 := Lib.hid (HF7.out.drew.trans hF8)
            have HN8 := Lib.hid (OwN.fr hF8 (fun b _ h1 h2 => by omega) (show OwN (fun b => (w.heap.size < b ∧ b ≠ w3.heap.size) ∧ b < w7.heap.size) w7.drew _ n2 from (HO7.out.lt).drew))
            have HO8 := Lib.hid hO8
            have hz8 := hF8.size
            clear hP8 hF8 hO8
            refine hK.out _ _ (by exact ⟨HT8.out.cell 1 rfl, HT8.out.cell 3 rfl⟩) (fun hHeld => ?_)
            clear hK K
            try simp only [Act.put, List.setIfInBounds_toArray, List.set_cons_zero, List.set_cons_succ]
            refine wpAnyH_ready (rs := [9]) (by kernel_rfl) (by simp) ?_
            refine AllReadyH.cons rfl (fun K hK => ?_) AllReadyH.nil
            go_simp
            refine hK.out _ _ (by exact ⟨bcell (p_al w8 _) (HT8.out.cell 1 rfl), bcell (p_al w8 _) (HT8.out.cell 3 rfl)⟩) (fun hHeld => ?_)
            clear hK K
            try simp only [Act.put, List.setIfInBounds_toArray, List.set_cons_zero, List.set_cons_succ]
            refine wpAnyH_ready (rs := [10]) (by kernel_rfl) (by simp) ?_
            refine AllReadyH.cons rfl (fun K hK => ?_) AllReadyH.nil
            go_simp
            refine hK.out _ _ (by exact ⟨bcell (p_al w8 _) (HT8.out.cell 1 rfl), bcell (p_al w8 _) (HT8.out.cell 3 rfl)⟩) (fun hHeld => ?_)
            clear hK K
            try simp only [Act.put, List.setIfInBounds_toArray, List.set_cons_zero, List.set_cons_succ]
            have u0 : ∀ X, (w8.alloc X).cell? ⟨w3.heap.size, 0, none⟩ = some (.int .i64 n2.kind) := fun X => (HB8.out.below (p_al w8 X)).cell 0 rfl
            have u1 : ∀ X, (w8.alloc X).cell? ⟨w3.heap.size, 1, none⟩ = some (.string ⟨n2.text.toArray⟩) := fun X => (HB8.out.below (p_al w8 X)).cell 1 rfl
            have u2 : ∀ X, (w8.alloc X).cell? ⟨w3.heap.size, 2, none⟩ = some (.int .i64 n2.val.kind) := fun X => (HB8.out.below (p_al w8 X)).cell 2 rfl
            have u3 : ∀ X, (w8.alloc X).cell? ⟨w3.heap.size, 3, none⟩ = some (.int .i64 n2.val.num) := fun X => (HB8.out.below (p_al w8 X)).cell 3 rfl
            have u4 : ∀ X, (w8.alloc X).cell? ⟨w3.heap.size, 4, none⟩ = some (.string ⟨n2.val.str.toArray⟩) := fun X => (HB8.out.below (p_al w8 X)).cell 4 rfl
            have u5 : ∀ X, (w8.alloc X).cell? ⟨w3.heap.size, 5, none⟩ = some (.slice none 0 0) := fun X => (HB8.out.below (p_al w8 X)).cell 5 rfl
            have u6 : ∀ X, (w8.alloc X).cell? ⟨w3.heap.size, 6, none⟩ = some (.slice none 0 0) := fun X => (HB8.out.below (p_al w8 X)).cell 6 rfl
            have u7 : ∀ X, (w8.alloc X).cell? ⟨w3.heap.size, 7, none⟩ = some (.bool n2.flag) := fun X => (HB8.out.below (p_al w8 X)).cell 7 rfl
            have u8 : ∀ X, (w8.alloc X).cell? ⟨w3.heap.size, 8, none⟩ = some (.slice A2 n2.kids.length c2) := fun X => (HB8.out.below (p_al w8 X)).cell 8 rfl
            have u9 : ∀ X, (w8.alloc X).cell? ⟨w3.heap.size, 9, none⟩ = some (.int .i64 n2.spot) := fun X => (HB8.out.below (p_al w8 X)).cell 9 rfl
            have l0 : ∀ X, (w8.alloc X).frozen? ⟨w3.heap.size, 0, none⟩ = false := fun X => (HB8.out.below (p_al w8 X)).melt 0
            have l1 : ∀ X, (w8.alloc X).frozen? ⟨w3.heap.size, 1, none⟩ = false := fun X => (HB8.out.below (p_al w8 X)).melt 1
            have l2 : ∀ X, (w8.alloc X).frozen? ⟨w3.heap.size, 2, none⟩ = false := fun X => (HB8.out.below (p_al w8 X)).melt 2
            have l3 : ∀ X, (w8.alloc X).frozen? ⟨w3.heap.size, 3, none⟩ = false := fun X => (HB8.out.below (p_al w8 X)).melt 3
            have l4 : ∀ X, (w8.alloc X).frozen? ⟨w3.heap.size, 4, none⟩ = false := fun X => (HB8.out.below (p_al w8 X)).melt 4
            have l5 : ∀ X, (w8.alloc X).frozen? ⟨w3.heap.size, 5, none⟩ = false := fun X => (HB8.out.below (p_al w8 X)).melt 5
            have l6 : ∀ X, (w8.alloc X).frozen? ⟨w3.heap.size, 6, none⟩ = false := fun X => (HB8.out.below (p_al w8 X)).melt 6
            have l7 : ∀ X, (w8.alloc X).frozen? ⟨w3.heap.size, 7, none⟩ = false := fun X => (HB8.out.below (p_al w8 X)).melt 7
            have l8 : ∀ X, (w8.alloc X).frozen? ⟨w3.heap.size, 8, none⟩ = false := fun X => (HB8.out.below (p_al w8 X)).melt 8
            have l9 : ∀ X, (w8.alloc X).frozen? ⟨w3.heap.size, 9, none⟩ = false := fun X => (HB8.out.below (p_al w8 X)).melt 9
            refine wpAnyH_ready (rs := [11]) (by kernel_rfl) (by simp) ?_
            refine AllReadyH.cons rfl (fun K hK => ?_) AllReadyH.nil
            go_simp
            have hal := p_al w8 (.cells #[.int .i64 n2.kind, .string ⟨n2.text.toArray⟩, .int .i64 n2.val.kind, .int .i64 n2.val.num, .string ⟨n2.val.str.toArray⟩, .slice none 0 0, .slice none 0 0, .bool n2.flag, .slice A2 n2.kids.length c2, .int .i64 n2.spot, .int .i64 mm.kind, .string ⟨mm.text.toArray⟩, .int .i64 mm.val.kind, .int .i64 mm.val.num, .string ⟨mm.val.str.toArray⟩, .slice none 0 0, .slice none 0 0, .bool mm.flag, .slice A8 mm.kids.length c8, .int .i64 mm.spot] 29)
            have hfr := ten_res w3.heap.size (.int .i64 17) (.string ⟨X.text.toArray⟩) (.int .i64 0) (.int .i64 0) (.string ⟨#[]⟩) (.slice none 0 0) (.slice none 0 0) (.bool false) (.slice (some ⟨w8.heap.size, 0, none⟩) 2 2) (.int .i64 (X.pos : Int)) (w8.alloc (.cells #[.int .i64 n2.kind, .string ⟨n2.text.toArray⟩, .int .i64 n2.val.kind, .int .i64 n2.val.num, .string ⟨n2.val.str.toArray⟩, .slice none 0 0, .slice none 0 0, .bool n2.flag, .slice A2 n2.kids.length c2, .int .i64 n2.spot, .int .i64 mm.kind, .string ⟨mm.text.toArray⟩, .int .i64 mm.val.kind, .int .i64 mm.val.num, .string ⟨mm.val.str.toArray⟩, .slice none 0 0, .slice none 0 0, .bool mm.flag, .slice A8 mm.kids.length c8, .int .i64 mm.spot] 29))
            have hbx := ten_set (HB8.out.below hal) (.int .i64 17) (.string ⟨X.text.toArray⟩) (.int .i64 0) (.int .i64 0) (.string ⟨#[]⟩) (.slice none 0 0) (.slice none 0 0) (.bool false) (.slice (some ⟨w8.heap.size, 0, none⟩) 2 2) (.int .i64 (X.pos : Int))
            refine hK.out _ _ (by exact ⟨hfr.cell (bcell hal (HT8.out.cell 1 rfl)) (show ¬ w3.heap.size = w6.heap.size by omega), hfr.cell (bcell hal (HT8.out.cell 3 rfl)) (show ¬ w3.heap.size = w6.heap.size by omega)⟩) (fun hHeld => ?_)
            clear hK K
            have hw7 : w3.heap.size < w7.heap.size := HB7.out.lt
            have hPt := HP8.out.ltt
            have HP9 := Lib.hid ((HP8.out.below hal).fr hfr (by omega) (by omega))
            have HX9 := Lib.hid ((HX8.out.below hal).fr hfr (by omega))
            have HF9 := Lib.hid ((HF8.out.below hal).past hfr (fun b hb h => by omega))
            have hwz := HX7.out.lt
            have hz8' : w7.heap.size ≤ w8.heap.size := hz8
            have HK9 := Lib.hid ((KidRow.pair (ok := fun b => w.heap.size < b ∧ b ≠ w3.heap.size) HN8.out HO8.out (fun b h1 h2 => by simp at h2; omega) (fun b _ h => h.1) (fun b _ h => by simp at h; omega) (by omega) _ rfl).fr hfr (fun b hb h1 h2 => by omega))
            have hat9 := Hat.out
            have HO9 := Lib.hid (OwN.of (n := nodeP 17 X.text [n2, mm] X.pos) (by constructor <;> simp [N.kind]) (by constructor <;> simp [N.spot] <;> omega) (by simp [N.text]; omega) ⟨by constructor <;> simp [V.kind, V.zero, N.val], by constructor <;> simp [V.num, V.zero, N.val], by simp [V.str, V.zero, N.val], rfl, rfl⟩ (by simp [N.kids]) HK9.out)
            have HB9 := Lib.hid hbx
            clear hbx hfr hal hat9 u0 u1 u2 u3 u4 u5 u6 u7 u8 u9 l0 l1 l2 l3 l4 l5 l6 l7 l8 l9
            refine wpAnyH_done (by kernel_rfl) ?_ _
            clear hHeld
            generalize (((((((((((w8.alloc (.cells #[.int .i64 n2.kind, .string ⟨n2.text.toArray⟩, .int .i64 n2.val.kind, .int .i64 n2.val.num, .string ⟨n2.val.str.toArray⟩, .slice none 0 0, .slice none 0 0, .bool n2.flag, .slice A2 n2.kids.length c2, .int .i64 n2.spot, .int .i64 mm.kind, .string ⟨mm.text.toArray⟩, .int .i64 mm.val.kind, .int .i64 mm.val.num, .string ⟨mm.val.str.toArray⟩, .slice none 0 0, .slice none 0 0, .bool mm.flag, .slice A8 mm.kids.length c8, .int .i64 mm.spot] 29)).setCell ⟨w3.heap.size, 0, none⟩ (.int .i64 17)).setCell ⟨w3.heap.size, 1, none⟩ (.string ⟨X.text.toArray⟩)).setCell ⟨w3.heap.size, 2, none⟩ (.int .i64 0)).setCell ⟨w3.heap.size, 3, none⟩ (.int .i64 0)).setCell ⟨w3.heap.size, 4, none⟩ (.string ⟨#[]⟩)).setCell ⟨w3.heap.size, 5, none⟩ (.slice none 0 0)).setCell ⟨w3.heap.size, 6, none⟩ (.slice none 0 0)).setCell ⟨w3.heap.size, 7, none⟩ (.bool false)).setCell ⟨w3.heap.size, 8, none⟩ (.slice (some ⟨w8.heap.size, 0, none⟩) 2 2)).setCell ⟨w3.heap.size, 9, none⟩ (.int .i64 (X.pos : Int))) = W9 at *
            cases hm3 : ((m : Int) == 3) with
            | true =>
              have HQ3 := Lib.hid (show R = .ok (nodeP 17 X.text [n2, mm] X.pos) (T.drop k8) by rw [← HQ2.out, if_pos (by simp at hm3; omega)])
              have HE := Lib.hid (EndN.ret hlg hlt HQ3.out HP9.out HF9.out (HO9.out.imp (fun b _ h => Nat.succ_le_of_lt h.1)) (Nat.le_refl w.heap.size) (Nat.lt_succ_self _))
              obtain ⟨r0, r1, r2, r3, r4, r5, r6, r7, r8, r9⟩ := ten_cells HX9.out
              obtain ⟨m0, m1, m2, m3, m4, m5, m6, m7, m8, m9⟩ := ten_melt HX9.out
              obtain ⟨t0, t1, t2, t3, t4, t5, t6, t7, t8, t9⟩ := ten_cells HB9.out
              go_wp2_with fail
              refine bodyPost_ret (v := valO (nodeP 17 X.text [n2, mm] X.pos) (.slice (some ⟨w8.heap.size, 0, none⟩) 2 2)) (by simp [results, Tryz.results63, go_sem, r0, r1, r2, r3, r4, r5, r6, r7, r8, r9, N.kind, N.text, N.val, N.flag, N.kids, N.spot, V.zero, V.kind, V.num, V.str]) rfl ?_
              exact HE.out
            | false =>
              have HQ3 := Lib.hid (show pBinT j m o (nodeP 17 X.text [n2, mm] X.pos) (T.drop k8) = R by rw [← HQ2.out, if_neg (by simp at hm3; omega)])
              go_wp2_with fail
              go_roundg j
              case measure => omega
              case rel => exact ⟨by omega, nodeP 17 X.text [n2, mm] X.pos, some ⟨w8.heap.size, 0, none⟩, 2, _, HP9.out, HF9.out, HX9.out, HB9.out, HO9.out, HQ3.out⟩
          · clear c0 c1 c2' c3 c4 c5 c6 c7 c8 c9
            go_simp
            refine (HI2.out _ (HP7.out.same (W' := w7.drew) rfl)).mono ?_
            rintro e w8 ⟨A8, c8, k8, rfl, rfl, hP8, hF8, hO8⟩
            have HT8 := Lib.hid (Box.fr (show Box w6.heap.size _ _ w7.drew from HT7.out) hF8 (by omega))
            have HB8 := Lib.hid (Box.fr (show Box w3.heap.size _ _ w7.drew from HB7.out) hF8 (by omega))
            have HX8 := Lib.hid (Box.fr (show Box w.heap.size _ _ w7.drew from HX7.out) hF8 (by omega))
            have HP8 := Lib.hid hP8
            have HF8 := Lib.hid (HF7.out.drew.trans hF8)
            have HN8 := Lib.hid (OwN.fr hF8 (fun b _ h1 h2 => by omega) (show OwN (fun b => (w.heap.size < b ∧ b ≠ w3.heap.size) ∧ b < w7.heap.size) w7.drew _ n2 from (HO7.out.lt).drew))
            have HO8 := Lib.hid hO8
            have hz8 := hF8.size
            clear hP8 hF8 hO8
            refine hK.out _ _ (by exact ⟨HT8.out.cell 1 rfl, HT8.out.cell 3 rfl⟩) (fun hHeld => ?_)
            clear hK K
            try simp only [Act.put, List.setIfInBounds_toArray, List.set_cons_zero, List.set_cons_succ]
            obtain ⟨c0, c1, c2', c3, c4, c5, c6, c7, c8', c9⟩ := ten_cells HB8.out
            refine wpAnyH_ready (rs := [4]) (by kernel_rfl) (by simp) ?_
            refine AllReadyH.cons rfl (fun K hK => ?_) AllReadyH.nil
            go_simp
            refine hK.out _ _ (by exact ⟨HT8.out.cell 1 rfl, HT8.out.cell 3 rfl⟩) (fun hHeld => ?_)
            clear hK K
            try simp only [Act.put, List.setIfInBounds_toArray, List.set_cons_zero, List.set_cons_succ]
            refine wpAnyH_ready (rs := [9]) (by kernel_rfl) (by simp) ?_
            refine AllReadyH.cons rfl (fun K hK => ?_) AllReadyH.nil
            go_simp
            refine hK.out _ _ (by exact ⟨bcell (p_al w8 _) (HT8.out.cell 1 rfl), bcell (p_al w8 _) (HT8.out.cell 3 rfl)⟩) (fun hHeld => ?_)
            clear hK K
            try simp only [Act.put, List.setIfInBounds_toArray, List.set_cons_zero, List.set_cons_succ]
            refine wpAnyH_ready (rs := [10]) (by kernel_rfl) (by simp) ?_
            refine AllReadyH.cons rfl (fun K hK => ?_) AllReadyH.nil
            go_simp
            refine hK.out _ _ (by exact ⟨bcell (p_al w8 _) (HT8.out.cell 1 rfl), bcell (p_al w8 _) (HT8.out.cell 3 rfl)⟩) (fun hHeld => ?_)
            clear hK K
            try simp only [Act.put, List.setIfInBounds_toArray, List.set_cons_zero, List.set_cons_succ]
            have u0 : ∀ X, (w8.alloc X).cell? ⟨w3.heap.size, 0, none⟩ = some (.int .i64 n2.kind) := fun X => (HB8.out.below (p_al w8 X)).cell 0 rfl
            have u1 : ∀ X, (w8.alloc X).cell? ⟨w3.heap.size, 1, none⟩ = some (.string ⟨n2.text.toArray⟩) := fun X => (HB8.out.below (p_al w8 X)).cell 1 rfl
            have u2 : ∀ X, (w8.alloc X).cell? ⟨w3.heap.size, 2, none⟩ = some (.int .i64 n2.val.kind) := fun X => (HB8.out.below (p_al w8 X)).cell 2 rfl
            have u3 : ∀ X, (w8.alloc X).cell? ⟨w3.heap.size, 3, none⟩ = some (.int .i64 n2.val.num) := fun X => (HB8.out.below (p_al w8 X)).cell 3 rfl
            have u4 : ∀ X, (w8.alloc X).cell? ⟨w3.heap.size, 4, none⟩ = some (.string ⟨n2.val.str.toArray⟩) := fun X => (HB8.out.below (p_al w8 X)).cell 4 rfl
            have u5 : ∀ X, (w8.alloc X).cell? ⟨w3.heap.size, 5, none⟩ = some (.slice none 0 0) := fun X => (HB8.out.below (p_al w8 X)).cell 5 rfl
            have u6 : ∀ X, (w8.alloc X).cell? ⟨w3.heap.size, 6, none⟩ = some (.slice none 0 0) := fun X => (HB8.out.below (p_al w8 X)).cell 6 rfl
            have u7 : ∀ X, (w8.alloc X).cell? ⟨w3.heap.size, 7, none⟩ = some (.bool n2.flag) := fun X => (HB8.out.below (p_al w8 X)).cell 7 rfl
            have u8 : ∀ X, (w8.alloc X).cell? ⟨w3.heap.size, 8, none⟩ = some (.slice A2 n2.kids.length c2) := fun X => (HB8.out.below (p_al w8 X)).cell 8 rfl
            have u9 : ∀ X, (w8.alloc X).cell? ⟨w3.heap.size, 9, none⟩ = some (.int .i64 n2.spot) := fun X => (HB8.out.below (p_al w8 X)).cell 9 rfl
            have l0 : ∀ X, (w8.alloc X).frozen? ⟨w3.heap.size, 0, none⟩ = false := fun X => (HB8.out.below (p_al w8 X)).melt 0
            have l1 : ∀ X, (w8.alloc X).frozen? ⟨w3.heap.size, 1, none⟩ = false := fun X => (HB8.out.below (p_al w8 X)).melt 1
            have l2 : ∀ X, (w8.alloc X).frozen? ⟨w3.heap.size, 2, none⟩ = false := fun X => (HB8.out.below (p_al w8 X)).melt 2
            have l3 : ∀ X, (w8.alloc X).frozen? ⟨w3.heap.size, 3, none⟩ = false := fun X => (HB8.out.below (p_al w8 X)).melt 3
            have l4 : ∀ X, (w8.alloc X).frozen? ⟨w3.heap.size, 4, none⟩ = false := fun X => (HB8.out.below (p_al w8 X)).melt 4
            have l5 : ∀ X, (w8.alloc X).frozen? ⟨w3.heap.size, 5, none⟩ = false := fun X => (HB8.out.below (p_al w8 X)).melt 5
            have l6 : ∀ X, (w8.alloc X).frozen? ⟨w3.heap.size, 6, none⟩ = false := fun X => (HB8.out.below (p_al w8 X)).melt 6
            have l7 : ∀ X, (w8.alloc X).frozen? ⟨w3.heap.size, 7, none⟩ = false := fun X => (HB8.out.below (p_al w8 X)).melt 7
            have l8 : ∀ X, (w8.alloc X).frozen? ⟨w3.heap.size, 8, none⟩ = false := fun X => (HB8.out.below (p_al w8 X)).melt 8
            have l9 : ∀ X, (w8.alloc X).frozen? ⟨w3.heap.size, 9, none⟩ = false := fun X => (HB8.out.below (p_al w8 X)).melt 9
            refine wpAnyH_ready (rs := [11]) (by kernel_rfl) (by simp) ?_
            refine AllReadyH.cons rfl (fun K hK => ?_) AllReadyH.nil
            go_simp
            have hal := p_al w8 (.cells #[.int .i64 n2.kind, .string ⟨n2.text.toArray⟩, .int .i64 n2.val.kind, .int .i64 n2.val.num, .string ⟨n2.val.str.toArray⟩, .slice none 0 0, .slice none 0 0, .bool n2.flag, .slice A2 n2.kids.length c2, .int .i64 n2.spot, .int .i64 mm.kind, .string ⟨mm.text.toArray⟩, .int .i64 mm.val.kind, .int .i64 mm.val.num, .string ⟨mm.val.str.toArray⟩, .slice none 0 0, .slice none 0 0, .bool mm.flag, .slice A8 mm.kids.length c8, .int .i64 mm.spot] 29)
            have hfr := ten_res w3.heap.size (.int .i64 17) (.string ⟨X.text.toArray⟩) (.int .i64 0) (.int .i64 0) (.string ⟨#[]⟩) (.slice none 0 0) (.slice none 0 0) (.bool false) (.slice (some ⟨w8.heap.size, 0, none⟩) 2 2) (.int .i64 (X.pos : Int)) (w8.alloc (.cells #[.int .i64 n2.kind, .string ⟨n2.text.toArray⟩, .int .i64 n2.val.kind, .int .i64 n2.val.num, .string ⟨n2.val.str.toArray⟩, .slice none 0 0, .slice none 0 0, .bool n2.flag, .slice A2 n2.kids.length c2, .int .i64 n2.spot, .int .i64 mm.kind, .string ⟨mm.text.toArray⟩, .int .i64 mm.val.kind, .int .i64 mm.val.num, .string ⟨mm.val.str.toArray⟩, .slice none 0 0, .slice none 0 0, .bool mm.flag, .slice A8 mm.kids.length c8, .int .i64 mm.spot] 29))
            have hbx := ten_set (HB8.out.below hal) (.int .i64 17) (.string ⟨X.text.toArray⟩) (.int .i64 0) (.int .i64 0) (.string ⟨#[]⟩) (.slice none 0 0) (.slice none 0 0) (.bool false) (.slice (some ⟨w8.heap.size, 0, none⟩) 2 2) (.int .i64 (X.pos : Int))
            refine hK.out _ _ (by exact ⟨hfr.cell (bcell hal (HT8.out.cell 1 rfl)) (show ¬ w3.heap.size = w6.heap.size by omega), hfr.cell (bcell hal (HT8.out.cell 3 rfl)) (show ¬ w3.heap.size = w6.heap.size by omega)⟩) (fun hHeld => ?_)
            clear hK K
            have hw7 : w3.heap.size < w7.heap.size := HB7.out.lt
            have hPt := HP8.out.ltt
            have HP9 := Lib.hid ((HP8.out.below hal).fr hfr (by omega) (by omega))
            have HX9 := Lib.hid ((HX8.out.below hal).fr hfr (by omega))
            have HF9 := Lib.hid ((HF8.out.below hal).past hfr (fun b hb h => by omega))
            have hwz := HX7.out.lt
            have hz8' : w7.heap.size ≤ w8.heap.size := hz8
            have HK9 := Lib.hid ((KidRow.pair (ok := fun b => w.heap.size < b ∧ b ≠ w3.heap.size) HN8.out HO8.out (fun b h1 h2 => by simp at h2; omega) (fun b _ h => h.1) (fun b _ h => by simp at h; omega) (by omega) _ rfl).fr hfr (fun b hb h1 h2 => by omega))
            have hat9 := Hat.out
            have HO9 := Lib.hid (OwN.of (n := nodeP 17 X.text [n2, mm] X.pos) (by constructor <;> simp [N.kind]) (by constructor <;> simp [N.spot] <;> omega) (by simp [N.text]; omega) ⟨by constructor <;> simp [V.kind, V.zero, N.val], by constructor <;> simp [V.num, V.zero, N.val], by simp [V.str, V.zero, N.val], rfl, rfl⟩ (by simp [N.kids]) HK9.out)
            have HB9 := Lib.hid hbx
            clear hbx hfr hal hat9 u0 u1 u2 u3 u4 u5 u6 u7 u8 u9 l0 l1 l2 l3 l4 l5 l6 l7 l8 l9
            refine wpAnyH_done (by kernel_rfl) ?_ _
            clear hHeld
            generalize (((((((((((w8.alloc (.cells #[.int .i64 n2.kind, .string ⟨n2.text.toArray⟩, .int .i64 n2.val.kind, .int .i64 n2.val.num, .string ⟨n2.val.str.toArray⟩, .slice none 0 0, .slice none 0 0, .bool n2.flag, .slice A2 n2.kids.length c2, .int .i64 n2.spot, .int .i64 mm.kind, .string ⟨mm.text.toArray⟩, .int .i64 mm.val.kind, .int .i64 mm.val.num, .string ⟨mm.val.str.toArray⟩, .slice none 0 0, .slice none 0 0, .bool mm.flag, .slice A8 mm.kids.length c8, .int .i64 mm.spot] 29)).setCell ⟨w3.heap.size, 0, none⟩ (.int .i64 17)).setCell ⟨w3.heap.size, 1, none⟩ (.string ⟨X.text.toArray⟩)).setCell ⟨w3.heap.size, 2, none⟩ (.int .i64 0)).setCell ⟨w3.heap.size, 3, none⟩ (.int .i64 0)).setCell ⟨w3.heap.size, 4, none⟩ (.string ⟨#[]⟩)).setCell ⟨w3.heap.size, 5, none⟩ (.slice none 0 0)).setCell ⟨w3.heap.size, 6, none⟩ (.slice none 0 0)).setCell ⟨w3.heap.size, 7, none⟩ (.bool false)).setCell ⟨w3.heap.size, 8, none⟩ (.slice (some ⟨w8.heap.size, 0, none⟩) 2 2)).setCell ⟨w3.heap.size, 9, none⟩ (.int .i64 (X.pos : Int))) = W9 at *
            cases hm3 : ((m : Int) == 3) with
            | true =>
              have HQ3 := Lib.hid (show R = .ok (nodeP 17 X.text [n2, mm] X.pos) (T.drop k8) by rw [← HQ2.out, if_pos (by simp at hm3; omega)])
              have HE := Lib.hid (EndN.ret hlg hlt HQ3.out HP9.out HF9.out (HO9.out.imp (fun b _ h => Nat.succ_le_of_lt h.1)) (Nat.le_refl w.heap.size) (Nat.lt_succ_self _))
              obtain ⟨r0, r1, r2, r3, r4, r5, r6, r7, r8, r9⟩ := ten_cells HX9.out
              obtain ⟨m0, m1, m2, m3, m4, m5, m6, m7, m8, m9⟩ := ten_melt HX9.out
              obtain ⟨t0, t1, t2, t3, t4, t5, t6, t7, t8, t9⟩ := ten_cells HB9.out
              go_wp2_with fail
              refine bodyPost_ret (v := valO (nodeP 17 X.text [n2, mm] X.pos) (.slice (some ⟨w8.heap.size, 0, none⟩) 2 2)) (by simp [results, Tryz.results63, go_sem, r0, r1, r2, r3, r4, r5, r6, r7, r8, r9, N.kind, N.text, N.val, N.flag, N.kids, N.spot, V.zero, V.kind, V.num, V.str]) rfl ?_
              exact HE.out
            | false =>
              have HQ3 := Lib.hid (show pBinT j m o (nodeP 17 X.text [n2, mm] X.pos) (T.drop k8) = R by rw [← HQ2.out, if_neg (by simp at hm3; omega)])
              go_wp2_with fail
              go_roundg j
              case measure => omega
              case rel => exact ⟨by omega, nodeP 17 X.text [n2, mm] X.pos, some ⟨w8.heap.size, 0, none⟩, 2, _, HP9.out, HF9.out, HX9.out, HB9.out, HO9.out, HQ3.out⟩
end
end Go.Proofs.YtlnhhffhmeekoaaGreatDoor
namespace Go.Proofs.YtlnhhffhmeekoaaGreatDoor
open Go.RowKit Go.IntWalk

section
variable {T : List Tok} {gt cap g k o f : Nat} {w : World}
set_option maxRecDepth 20000 in
set_option maxHeartbeats 1000000 in
theorem k_expr (ih : KnotE T gt cap g f) (h : PSt T gt cap g k o w) (hne : pBin f 1 o (T.drop k) ≠ .out) :
    Calls Tryz.prog 32 #[pPtr g] w (EndN T gt cap g o w (pBin f 1 o (T.drop k))) := by
  have HX0 := Lib.hid (Box.new w zNode 29)
  have HI := Lib.hid (ih.bin 1 o k 1 _ rfl (by omega) (by omega) (h.below (p_al w (.cells zNode 29))) hne)
  have hlg := h.box.lt
  have hlt := h.ltt
  clear h hne ih
  go_enter Tryz.func32, Tryz.ntmps32
  go_wp2_with fail
  refine HI.out.mono ?_
  rintro e w3 (⟨c, p, hr, rfl, hF⟩ | ⟨n, lv, k', hr, rfl, hP, hF, hO⟩)
  · have HR := Lib.hid hr
    have HF := Lib.hid ((Fr.of_below (p_al w _)).trans hF)
    clear hr hF
    go_wp2_with fail
    exact ⟨rfl, .inl ⟨c, p, HR.out, rfl, HF.out⟩⟩
  · obtain ⟨A, ca, rfl⟩ := hO.lvs
    have HX := Lib.hid (HX0.out.fr hF (fun e => by omega))
    have HE := Lib.hid (EndN.ret hlg hlt hr hP ((Fr.of_below (p_al w _)).trans hF) hO (Nat.le_refl w.heap.size) HX0.out.lt)
    clear hr hP hF hO
    obtain ⟨r0, r1, r2, r3, r4, r5, r6, r7, r8, r9⟩ := ten_cells HX.out
    obtain ⟨m0, m1, m2, m3, m4, m5, m6, m7, m8, m9⟩ := ten_melt HX.out
    go_wp2_with fail
    refine bodyPost_ret (v := valO n (.slice A n.kids.length ca)) (by simp [results, Tryz.results32, go_sem, r0, r1, r2, r3, r4, r5, r6, r7, r8, r9]) rfl ?_
    exact HE.out
/-- append(kids, n): one more of later blocks -/
theorem opN_append {o : Oper} {a : Act} {Q : Exit → Act → World → Prop} {K : Act → World → Prop} {W : World} {B C : Nat} {acc : List N} {n : N} {lvn : Value} (v : Value)
    (s x : Operand) (ho : o.op = .call { callee := .builtin .append, args := #[s, x], argTypes := #[27, 27] })
    (cells : Array Value) (hc : cells = (cellsN n lvn).toArray) (hs : a.eval s = v) (hx : a.eval x = .slice (some ⟨W.heap.size, 0, none⟩) 1 1)
    (HK : KidRow (fun b => B ≤ b ∧ b < C) W v acc) (HO : OwN (fun b => C ≤ b) W (cellsN n lvn) n) (hBC : B ≤ C) (hC : C ≤ W.heap.size) (hl : acc.length ≤ 300000)
    (h : ∀ v1 w1, KidRow (fun b => B ≤ b) w1 v1 (acc ++ [n]) → Fr (fun b => B ≤ b ∧ b < C) W w1 → K (a.put o.dst v1) w1) :
    Oper.wp Tryz.prog o a (W.alloc (.cells cells 29)) K Q := by
  obtain ⟨news, h1, h2⟩ := HK
  refine opR_append (ok := fun b => v.ownBlock = some b ∨ W.heap.size ≤ b) 27 1 (cellsN n lvn) infoNode rfl (by omega) (by omega) Tryz.underlying27 s x ho cells hc 1 hs hx (by simp [cellsN]) HO.one ⟨h1.row, fun k hk => .inl hk⟩ (by omega) (fun k hk => .inr hk) ?_
  intro v1 w1 h3 h4 h5
  have hf : Fr (fun b => v.ownBlock = some b) W w1 := (Fr.refl _ W).grown h4 fun k hk => hk
  refine h v1 w1 ⟨news ++ cellsN n lvn, by simpa using h3.mono (fun b _ hb => show B ≤ b from hb.elim (fun h => (h1.blk b h).1) (fun h => by omega)), ?_⟩ (hf.mono fun b _ hb => h1.blk b hb)
  have h6 : OwNs (fun b => (((B ≤ b ∧ b < C) ∧ some b ≠ v.ownBlock)) ∧ b < W.heap.size) w1 news acc := (h2.lt).fr hf fun b _ h1 h2 => h1.1.2 h2.symm
  have h7 : OwN (fun b => C ≤ b ∧ b < W.heap.size) w1 (cellsN n lvn) n := (HO.lt).fr hf fun b _ h8 h9 => by have := h1.blk b h9; omega
  have hown : ∀ b, v1.ownBlock = some b → v.ownBlock = some b ∨ W.heap.size ≤ b := fun b hb => h3.blk b hb
  refine (OwNs.snoc h6 h7 fun b h1 h2 => by omega).imp fun b _ hb => ?_
  rcases hb with hb | hb
  · refine ⟨hb.1.1.1, fun e => ?_⟩
    rcases hown b e.symm with h | h
    · exact hb.1.2 h.symm
    · omega
  · refine ⟨by omega, fun e => ?_⟩
    rcases hown b e.symm with h | h
    · have := h1.blk b h; omega
    · omega
/-- what a reader of rows comes to -/
def EndL (T : List Tok) (gt cap g o : Nat) (w : World) (r : PR (List N)) (e : Ending) (W' : World) : Prop :=
  (∃ c p, r = .bad c p ∧ e = stopV c p ∧ Fr (fun b => g = b) w W') ∨ (∃ l lv k', r = .ok l (T.drop k') ∧ e = .returned lv ∧ PSt T gt cap g k' o W' ∧ Fr (fun b => g = b) w W' ∧ KidRow (fun b => w.heap.size ≤ b) W' lv l ∧ l.length ≤ 300000)
/-- row's loop: what has been read -/
structure RowL (T : List Tok) (gt cap g o c f : Nat) (e : List UInt8) (Inv : World → Prop) (w : World) (R : PR (List N)) (j : Nat) (v : Value) (W : World) : Prop where
  ex : ∃ acc k', j + acc.length ≤ f ∧ PSt T gt cap g k' o W ∧ Fr (fun b => g = b) w W ∧ Inv W ∧ KidRow (fun b => w.heap.size ≤ b) W v acc ∧ pRowT j c e o acc (T.drop k') = R
set_option maxRecDepth 20000 in
set_option maxHeartbeats 2000000 in
theorem k_row (hT : TkOk T) (hf : f ≤ 200000) (c : Nat) (E : List UInt8) (F : FuncId) (first caps : Array Value) (hent : ∀ w, (callFunc F (first ++ caps)).run Tryz.prog w = .ok (.enter F (first ++ caps)) w) (Inv : World → Prop) (hInv : ∀ W W', Inv W → Fr (fun b => g = b ∨ w.heap.size ≤ b) W W' → Inv W')
    (hItem : ∀ j, j ≤ f → ∀ k W, PSt T gt cap g k o W → Inv W → pItem j c o (T.drop k) ≠ .out → Calls Tryz.prog F (first ++ caps) W (EndN T gt cap g o W (pItem j c o (T.drop k))))
    (h : PSt T gt cap g k o w) (hI : Inv w) (hne : pRow (f + 1) c E o (T.drop k) ≠ .out) :
    Calls Tryz.prog 127 #[pPtr g, .string ⟨E.toArray⟩, .func (.func F) first caps] w (EndL T gt cap g o w (pRow (f + 1) c E o (T.drop k))) := by
  have hlg := h.box.lt
  have hlt := h.ltt
  cases he : isT E (T.drop k) with
  | true =>
    have hs : pRow (f + 1) c E o (T.drop k) = .ok [] (T.drop (k + 1)) := by rw [pRow, if_pos he, drop_tail]
    rw [hs]
    have HI := Lib.hid (p_take_yes hT h E he)
    clear hs h he hItem hInv hent
    go_enter Tryz.func127, Tryz.ntmps127
    go_wp2_with fail
    refine HI.out.mono ?_
    rintro e w1 ⟨rfl, hP, hF⟩
    have HE := Lib.hid (show EndL T gt cap g o w (.ok [] (T.drop (k + 1))) (.returned (.slice none 0 0)) w1 from .inr ⟨[], _, _, rfl, rfl, hP, hF, KidRow.nil _ _, by simp⟩)
    clear hP hF
    go_wp2_with fail
    go_ret
    exact HE.out
  | false =>
    have hs : pRow (f + 1) c E o (T.drop k) = pRowT f c E o [] (T.drop k) := by rw [pRow, if_neg (by rw [he]; simp)]
    rw [hs] at hne ⊢
    generalize hR : pRowT f c E o [] (T.drop k) = R at *
    have HNe := Lib.hid hne
    have HI := Lib.hid (p_take_no h E he)
    have HL := Lib.hid (fun W (hb : Below w.heap.size w W) => show RowL T gt cap g o c f E Inv w R f (.slice none 0 0) W from ⟨[], k, by simp, h.below hb, Fr.of_below hb, hInv _ _ hI (Fr.of_below hb), KidRow.nil _ _, hR⟩)
    have HIt := Lib.hid hItem
    have HInv := Lib.hid hInv
    clear hs h he hR hItem hne hI hInv
    go_enter Tryz.func127, Tryz.ntmps127
    go_wp2_with fail
    refine HI.out.mono ?_
    rintro e w1 ⟨rfl, hb⟩
    have HL1 := Lib.hid (HL.out _ hb)
    clear hb HL
    go_wp2_with fail
    go_loopg [7] f (fun j v wr => RowL T gt cap g o c f E Inv w R j v wr)
    case atStart => exact HL1.out
    case round =>
      obtain ⟨acc, k', hle, hP, hF, hI, hK, hRR⟩ := hrel
      cases gk with
      | zero => exact absurd (by rw [← hRR, pRowT]) HNe.out
      | succ j =>
      rw [pRowT] at hRR
      have hin : pItem j c o (T.drop k') ≠ .out := fun e => HNe.out (by rw [← hRR, e]; rfl)
      have HC := Lib.hid (HIt.out j (by omega) k' wr hP hI hin)
      have HP := Lib.hid hP
      have HF := Lib.hid hF
      have HI' := Lib.hid hI
      have HK := Lib.hid hK
      have HRR := Lib.hid hRR
      clear hP hF hI hK hRR hin HL1 HI
      go_wp2_with fail
      refine HC.out.mono ?_
      rintro e w2 (⟨c', p, hr, rfl, hF⟩ | ⟨n, lv, k2, hr, rfl, hP, hF2, hO⟩)
      · have HQ := Lib.hid (show R = .bad c' p by rw [← HRR.out, hr]; rfl)
        have HF2 := Lib.hid (HF.out.trans hF)
        clear hr hF
        go_wp2_with fail
        exact ⟨rfl, .inl ⟨c', p, HQ.out, rfl, HF2.out⟩⟩
      · obtain ⟨A, ca, rfl⟩ := hO.lvs
        have HQ := Lib.hid (show (if isT [44] (T.drop k2) = true then pRowT j c E o (acc ++ [n]) (T.drop k2).tail else (mustT E (T.drop k2)).bind fun _ r => .ok (acc ++ [n]) r) = R by rw [← HRR.out, hr]; rfl)
        have hz := hF2.size
        have hz0 := HF.out.size
        have HK2 := Lib.hid (((HK.out.imp (ok' := fun b => w.heap.size ≤ b ∧ b < wr.heap.size) (fun b hb h => ⟨h, hb⟩))).fr hF2 (fun b _ h1 h2 => by omega))
        have HP2 := Lib.hid hP
        have HF2 := Lib.hid (HF.out.trans hF2)
        have HI2 := Lib.hid (HInv.out _ _ HI'.out (hF2.mono fun b _ h => .inl h))
        have HO2 := Lib.hid hO
        have hacc : acc.length ≤ 300000 := by omega
        clear hr hP hF2 hO HP HF HI' HK HRR HC
        go_wp2_with (at_builtin; (refine wpList_plain rfl fun K hK => opN_append (n := n) (lvn := .slice A n.kids.length ca) u7 _ _ rfl _ rfl rfl rfl HK2.out HO2.out hz0 hz hacc ?_); intro v1 w3 hK3 hF3; refine hK _ _ ?_)
        have hz2 := HP2.out.ltt
        have HP3 := Lib.hid (HP2.out.fr hF3 (by omega) (by omega))
        have HF3 := Lib.hid (HF2.out.past hF3 (fun b hb h => by omega))
        have HI3 := Lib.hid (HInv.out _ _ HI2.out (hF3.mono fun b _ h => .inr h.1))
        have HK3 := Lib.hid hK3
        clear hF3 hK3 hK K HP2 HF2 HI2 HK2 HO2
        cases hc : isT [44] (T.drop k2) with
        | true =>
          have HQ2 := Lib.hid (show pRowT j c E o (acc ++ [n]) (T.drop (k2 + 1)) = R by rw [← HQ.out, if_pos hc, drop_tail])
          refine (p_take_yes hT HP3.out [44] hc).mono ?_
          rintro e w4 ⟨rfl, hP4, hF4⟩
          have HP4 := Lib.hid hP4
          have HK4 := Lib.hid (HK3.out.fr hF4 (fun b _ h1 h2 => by omega))
          have HI4 := Lib.hid (HInv.out _ _ HI3.out (hF4.mono fun b _ h => .inl h))
          have HF4 := Lib.hid (HF3.out.trans hF4)
          clear hP4 hF4 hc
          go_wp2_with fail
          go_roundg j
          case measure => omega
          case rel => exact ⟨acc ++ [n], k2 + 1, by simp; omega, HP4.out, HF4.out, HI4.out, HK4.out, HQ2.out⟩
        | false =>
          refine (p_take_no HP3.out [44] hc).mono ?_
          rintro e w4 ⟨rfl, hb4⟩
          have HP4 := Lib.hid (HP3.out.below hb4)
          have HK4 := Lib.hid (HK3.out.below hb4)
          have HF4 := Lib.hid (HF3.out.below hb4)
          clear hb4
          go_wp2_with fail
          cases he : isT E (T.drop k2) with
          | true =>
            have HQ2 := Lib.hid (show R = .ok (acc ++ [n]) (T.drop (k2 + 1)) by rw [← HQ.out, if_neg (by rw [hc]; simp), mustT, if_pos he, drop_tail]; rfl)
            refine (p_must_yes hT HP4.out E he).mono ?_
            rintro e w5 ⟨rfl, hP5, hF5⟩
            have HE := Lib.hid (show EndL T gt cap g o w R (.returned v1) w5 from .inr ⟨acc ++ [n], v1, k2 + 1, HQ2.out, rfl, hP5, HF4.out.trans hF5, HK4.out.fr hF5 (fun b _ h1 h2 => by omega), by simp; omega⟩)
            clear hP5 hF5
            go_wp2_with fail
            go_ret
            exact HE.out
          | false =>
            have HQ2 := Lib.hid (show R = .bad 170 (tkAt T k2).pos by rw [← HQ.out, if_neg (by rw [hc]; simp), mustT, if_neg (by rw [he]; simp), hd_tkAt T k2 HP4.out.lt]; rfl)
            refine (p_must_no HP4.out E he).mono ?_
            rintro e w5 ⟨rfl, hb5⟩
            have HF5 := Lib.hid (HF4.out.below hb5)
            clear hb5
            go_wp2_with fail
            exact ⟨rfl, .inl ⟨_, _, HQ2.out, rfl, HF5.out⟩⟩
end
end Go.Proofs.YtlnhhffhmeekoaaGreatDoor
