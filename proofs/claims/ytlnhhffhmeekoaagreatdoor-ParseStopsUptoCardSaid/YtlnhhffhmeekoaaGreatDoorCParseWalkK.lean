/- The parser's walks: postfix. -/
import Derived.Test.YtlnhhffhmeekoaaGreatDoorGParD
set_option linter.unusedVariables false
set_option linter.unusedSimpArgs false
namespace Go.Proofs.YtlnhhffhmeekoaaGreatDoor
open Go.RowKit Go.IntWalk
section
variable {T : List Tok} {gt cap g k o f : Nat} {w : World}
theorem PR.assoc_must {r : PR N} {s : List UInt8} {k : N → List Tok → PR N} : (r.bind fun m r => (mustT s r).bind fun _ r => PR.ok m r).bind k = r.bind fun m r => (mustT s r).bind fun _ r => k m r := by
  cases r with
  | out => rfl
  | bad e p => rfl
  | ok m ts =>
    show ((mustT s ts).bind fun _ r => PR.ok m r).bind k = (mustT s ts).bind fun _ r => k m r
    cases mustT s ts <;> rfl
/-- postfix's loop: the node that is there, the tokens behind it -/
structure PostL (T : List Tok) (gt cap g o nb f : Nat) (w : World) (R : PR N) (j : Nat) (W : World) : Prop where
  le : j ≤ f
  ex : ∃ n A c k', PSt T gt cap g k' o W ∧ Fr (fun b => g = b) w W ∧ Box w.heap.size #[pPtr g] 52 W ∧ Box (w.heap.size + 1) zNode 29 W ∧ Box nb (cellsN n (.slice A n.kids.length c)).toArray 29 W ∧ OwN (fun b => w.heap.size + 1 < b ∧ b ≠ nb) W (cellsN n (.slice A n.kids.length c)) n ∧ pPostT j o n (T.drop k') = R
set_option maxRecDepth 20000 in
set_option maxHeartbeats 1000000 in
theorem k_post (hT : TkOk T) (ih : ∀ j, j ≤ f → KnotE T gt cap g j) (h : PSt T gt cap g k o w) (hne : pPost (f + 1) o (T.drop k) ≠ .out) :
    Calls Tryz.prog 168 #[pPtr g] w (EndN T gt cap g o w (pPost (f + 1) o (T.drop k))) := by
  have hs : pPost (f + 1) o (T.drop k) = (pPrim f o (T.drop k)).bind fun n r => pPostT f o n r := by rw [pPost]
  rw [hs] at hne ⊢
  clear hs
  obtain ⟨b1, b2, b3⟩ := two_new w #[pPtr g] zNode 52 29
  have hin : pPrim f o (T.drop k) ≠ .out := fun e => hne (by rw [e]; rfl)
  have HI := Lib.hid ((ih f (Nat.le_refl f)).prim o k _ (h.below b3) hin)
  have hlg := h.box.lt
  have hlt := h.ltt
  have HB1 := Lib.hid b1
  have HB2 := Lib.hid b2
  have HB3 := Lib.hid b3
  have c0 := b1.cell 0 rfl
  have Hih := Lib.hid ih
  have HNe := Lib.hid hne
  clear h hne ih hin b1 b2 b3
  generalize hR : (pPrim f o (T.drop k)).bind (fun n r => pPostT f o n r) = R at *
  have HRR := Lib.hid hR
  clear hR
  go_enter Tryz.func168, Tryz.ntmps168
  go_wp2_with fail
  refine HI.out.mono ?_
  rintro e w3 (⟨c, p, hr, rfl, hF⟩ | ⟨n, lv, k', hr, rfl, hP, hF, hO⟩)
  · have HR := Lib.hid hr
    have HF := Lib.hid ((Fr.of_below HB3.out).trans hF)
    clear hr hF
    go_wp2_with fail
    exact ⟨rfl, .inl ⟨c, p, by rw [← HRR.out, HR.out]; rfl, rfl, HF.out⟩⟩
  · obtain ⟨A, ca, rfl⟩ := hO.lvs
    rw [hr] at HRR
    have hal := p_al w3 (.cells (cellsN n (.slice A n.kids.length ca)).toArray 29)
    have hz := HB2.out.lt
    have hz3 := hF.size
    have HL : PostL T gt cap g o w3.heap.size f w R f (w3.alloc (.cells (cellsN n (.slice A n.kids.length ca)).toArray 29)) :=
      ⟨Nat.le_refl _, n, A, ca, k', hP.below hal, ((Fr.of_below HB3.out).trans hF).below hal, (HB1.out.fr hF (by omega)).below hal, (HB2.out.fr hF (by omega)).below hal, Box.new _ _ _, ((hO.lt).below hal).imp (fun b _ h => by omega), HRR.out⟩
    have hzw : w.heap.size + 1 < w3.heap.size := by omega
    have HLL := Lib.hid HL
    clear HL hr hP hF hO HRR hz hz3 c0 HI HB1 HB2 HB3
    go_wp2_with fail
    go_loopg [] f (fun j wr => PostL T gt cap g o w3.heap.size f w R j wr)
    case atStart => exact HLL.out
    case round =>
      obtain ⟨hle, n2, A2, c2, k2, hP, hF, hX1, hX, hB, hO, hR2⟩ := hrel
      clear HLL hal
      cases gk with
      | zero => exact absurd (by rw [← hR2, pPostT]) HNe.out
      | succ j =>
      have hk2 := hP.lt
      rw [pPostT, drop_tail, hd_tkAt T k2 hk2] at hR2
      have hnk := fun s hs => isT_next (s := s) hT hk2 hs
      have hat := hT.at hk2
      have HP := Lib.hid hP
      have HF := Lib.hid hF
      have HX1 := Lib.hid hX1
      have HX := Lib.hid hX
      have HB := Lib.hid hB
      have HO := Lib.hid hO
      have HR2 := Lib.hid hR2
      have Hnk := Lib.hid hnk
      have Hat := Lib.hid hat
      have hnb := hB.lt
      have p0 := hX1.cell 0 rfl
      clear hP hF hX1 hX hB hO hR2 hnk hat
      generalize hXX : tkAt T k2 = X at *
      have HXX := Lib.hid hXX
      clear hXX
      go_wp2_with fail
      cases hi : isT [91] (T.drop k2) with
      | true =>
        have HQ := Lib.hid (show (opensT o (T.drop k2) fun r => (pBin j 1 (o + 1) r).bind fun m r => (mustT [93] r).bind fun _ r => pPostT j o (nodeP 21 [] [n2, m] X.pos) r) = R by rw [← HR2.out, if_pos hi])
        have hk3 := Hnk.out _ hi
        refine (p_is_at HP.out [91] true hi).mono ?_
        rintro e w4 ⟨rfl, hb4⟩
        have hal := p_al w4 (.cells zNode 29)
        have HS := Lib.hid (bthen hb4 hal)
        have HI4 := Lib.hid (Box.new w4 zNode 29)
        have hz4 := hb4.size
        have p1 := fun Y => bcell (p_al w4 Y) (bcell hb4 p0)
        clear hb4 hal hi
        go_wp2_with fail
        have HP5 := Lib.hid (HP.out.below HS.out)
        have HF5 := Lib.hid (HF.out.below HS.out)
        have HY5 := Lib.hid (HX1.out.below HS.out)
        have HX5 := Lib.hid (HX.out.below HS.out)
        have HB5 := Lib.hid (HB.out.below HS.out)
        have HO5 := Lib.hid (((HO.out.lt).below HS.out))
        have hz5 : w4.heap.size < (w4.alloc (.cells zNode 29)).heap.size := by simp
        generalize (w4.alloc (.cells zNode 29)) = w5 at *
        clear p1 p0 HP HF HX1 HX HB HO HS
        unfold opensT at HQ
        by_cases ho : o = 24
        · subst ho
          have HQ2 := Lib.hid (show R = .bad 171 X.pos by rw [← HQ.out, if_pos rfl, hd_tkAt T k2 hk2, HXX.out])
          rw [← HXX.out] at HQ2
          refine (p_within_no HP5.out _).mono ?_
          rintro e w6 ⟨rfl, hF⟩
          have HF6 := Lib.hid (HF5.out.trans hF)
          clear hF
          go_wp2_with fail
          exact ⟨rfl, .inl ⟨_, _, HQ2.out, rfl, HF6.out⟩⟩
        · have HQ2 := Lib.hid (show ((pBin j 1 (o + 1) (T.drop (k2 + 1))).bind fun m r => (mustT [93] r).bind fun _ r => PR.ok m r).bind (fun m r => pPostT j o (nodeP 21 [] [n2, m] X.pos) r) = R by
            rw [← HQ.out, if_neg ho, drop_tail]; exact PR.assoc_must)
          have hin : ((pBin j 1 (o + 1) (T.drop (k2 + 1))).bind fun m r => (mustT [93] r).bind fun _ r => PR.ok m r) ≠ .out := fun e => HNe.out (by rw [← HQ2.out, e]; rfl)
          have Hin := Lib.hid hin
          clear hin
          refine (within_node hT HP5.out hk3 (by have := HP5.out.open_; omega) 207 w.heap.size w4.heap.size (at_ent _) (by omega) (by omega) (by omega) _ _ _ _ _ _ _ _ _ _ HI4.out HY5.out (by omega) ((pBin j 1 (o + 1) (T.drop (k2 + 1))).bind fun m r => (mustT [93] r).bind fun _ r => PR.ok m r) ?_).mono ?_
          · intro W1 hP hb1 hb2
            exact k_atc hT (Hih.out j (by omega)) hP Hin.out _ _ _ _ _ _ _ _ _ _ _ _ hb1 hb2 (by omega) (by omega) (by omega) (by omega)
          · rintro e w6 (⟨c, p, hr, rfl, hF⟩ | ⟨mm, lv, k8, hr, rfl, hP, hF, hB, hO⟩)
            · have HF6 := Lib.hid (HF5.out.past hF (fun b hb h => h.elim (fun h => h) (fun h => by omega)))
              have HQ3 := Lib.hid (show R = .bad c p by rw [← HQ2.out, PR.bind_bad hr])
              clear hF hr
              go_wp2_with fail
              exact ⟨rfl, .inl ⟨_, _, HQ3.out, rfl, HF6.out⟩⟩
            · obtain ⟨A8, c8, rfl⟩ := hO.lvs
              rw [HXX.out]
              have HQ3 := Lib.hid (show pPostT j o (nodeP 21 [] [n2, mm] X.pos) (T.drop k8) = R by rw [← HQ2.out, PR.bind_ok hr])
              have hs6 := hF.size
              have hal := p_al w6 (.cells #[.int .i64 (X.kind : Int), .string ⟨X.text.toArray⟩, .int .i64 (X.n : Int), .int .i64 (X.pos : Int)] 41)
              have HT7 := Lib.hid (Box.new w6 #[.int .i64 (X.kind : Int), .string ⟨X.text.toArray⟩, .int .i64 (X.n : Int), .int .i64 (X.pos : Int)] 41)
              have HP7 := Lib.hid (hP.below hal)
              have HF7 := Lib.hid ((HF5.out.past hF (fun b hb h => h.elim (fun h => h) (fun h => by omega))).below hal)
              have HY7 := Lib.hid ((HY5.out.fr hF (fun h => h.elim (fun e => by omega) (fun e => by omega))).below hal)
              have HX7 := Lib.hid ((HX5.out.fr hF (fun h => h.elim (fun e => by omega) (fun e => by omega))).below hal)
              have HB7 := Lib.hid ((HB5.out.fr hF (fun h => h.elim (fun e => by omega) (fun e => by omega))).below hal)
              have HO7 := Lib.hid (((HO5.out.imp (ok' := fun b => (w.heap.size + 1 < b ∧ b ≠ w3.heap.size) ∧ b < wr.heap.size) (fun b _ h => h)).fr hF (fun b _ h1 h2 => h2.elim (fun e => by omega) (fun e => by omega))).below hal)
              have HI7 := Lib.hid (hB.below hal)
              have HM7 := Lib.hid (hO.below hal)
              have hw7 : w6.heap.size < (w6.alloc (.cells #[.int .i64 (X.kind : Int), .string ⟨X.text.toArray⟩, .int .i64 (X.n : Int), .int .i64 (X.pos : Int)] 41)).heap.size := by simp
              clear hr hP hF hB hO hal
              obtain ⟨a0, a1, a2, a3, _, _, _, _⟩ := four_facts HT7.out
              go_upto_region 6 with fail
              generalize (w6.alloc (.cells #[.int .i64 (X.kind : Int), .string ⟨X.text.toArray⟩, .int .i64 (X.n : Int), .int .i64 (X.pos : Int)] 41)) = w7 at *
              obtain ⟨d0, d1, d2, d3, d4, d5, d6, d7, d8, d9⟩ := ten_cells HB7.out
              obtain ⟨i0, i1, i2, i3, i4, i5, i6, i7, i8, i9⟩ := ten_cells HI7.out
              have v0 : ∀ X, (w7.alloc X).frozen? ⟨w3.heap.size, 0, none⟩ = false := fun X => (HB7.out.below (p_al w7 X)).melt 0
              have v1 : ∀ X, (w7.alloc X).frozen? ⟨w3.heap.size, 1, none⟩ = false := fun X => (HB7.out.below (p_al w7 X)).melt 1
              have v2 : ∀ X, (w7.alloc X).frozen? ⟨w3.heap.size, 2, none⟩ = false := fun X => (HB7.out.below (p_al w7 X)).melt 2
              have v3 : ∀ X, (w7.alloc X).frozen? ⟨w3.heap.size, 3, none⟩ = false := fun X => (HB7.out.below (p_al w7 X)).melt 3
              have v4 : ∀ X, (w7.alloc X).frozen? ⟨w3.heap.size, 4, none⟩ = false := fun X => (HB7.out.below (p_al w7 X)).melt 4
              have v5 : ∀ X, (w7.alloc X).frozen? ⟨w3.heap.size, 5, none⟩ = false := fun X => (HB7.out.below (p_al w7 X)).melt 5
              have v6 : ∀ X, (w7.alloc X).frozen? ⟨w3.heap.size, 6, none⟩ = false := fun X => (HB7.out.below (p_al w7 X)).melt 6
              have v7 : ∀ X, (w7.alloc X).frozen? ⟨w3.heap.size, 7, none⟩ = false := fun X => (HB7.out.below (p_al w7 X)).melt 7
              have v8 : ∀ X, (w7.alloc X).frozen? ⟨w3.heap.size, 8, none⟩ = false := fun X => (HB7.out.below (p_al w7 X)).melt 8
              have v9 : ∀ X, (w7.alloc X).frozen? ⟨w3.heap.size, 9, none⟩ = false := fun X => (HB7.out.below (p_al w7 X)).melt 9
              have u0 : ∀ X, (w7.alloc X).cell? ⟨w3.heap.size, 0, none⟩ = some (.int .i64 n2.kind) := fun X => (HB7.out.below (p_al w7 X)).cell 0 rfl
              have u1 : ∀ X, (w7.alloc X).cell? ⟨w3.heap.size, 1, none⟩ = some (.string ⟨n2.text.toArray⟩) := fun X => (HB7.out.below (p_al w7 X)).cell 1 rfl
              have u2 : ∀ X, (w7.alloc X).cell? ⟨w3.heap.size, 2, none⟩ = some (.int .i64 n2.val.kind) := fun X => (HB7.out.below (p_al w7 X)).cell 2 rfl
              have u3 : ∀ X, (w7.alloc X).cell? ⟨w3.heap.size, 3, none⟩ = some (.int .i64 n2.val.num) := fun X => (HB7.out.below (p_al w7 X)).cell 3 rfl
              have u4 : ∀ X, (w7.alloc X).cell? ⟨w3.heap.size, 4, none⟩ = some (.string ⟨n2.val.str.toArray⟩) := fun X => (HB7.out.below (p_al w7 X)).cell 4 rfl
              have u5 : ∀ X, (w7.alloc X).cell? ⟨w3.heap.size, 5, none⟩ = some (.slice none 0 0) := fun X => (HB7.out.below (p_al w7 X)).cell 5 rfl
              have u6 : ∀ X, (w7.alloc X).cell? ⟨w3.heap.size, 6, none⟩ = some (.slice none 0 0) := fun X => (HB7.out.below (p_al w7 X)).cell 6 rfl
              have u7 : ∀ X, (w7.alloc X).cell? ⟨w3.heap.size, 7, none⟩ = some (.bool n2.flag) := fun X => (HB7.out.below (p_al w7 X)).cell 7 rfl
              have u8 : ∀ X, (w7.alloc X).cell? ⟨w3.heap.size, 8, none⟩ = some (.slice A2 n2.kids.length c2) := fun X => (HB7.out.below (p_al w7 X)).cell 8 rfl
              have u9 : ∀ X, (w7.alloc X).cell? ⟨w3.heap.size, 9, none⟩ = some (.int .i64 n2.spot) := fun X => (HB7.out.below (p_al w7 X)).cell 9 rfl
              go_wp2_with fail
              have hal := p_al w7 (.cells #[.int .i64 n2.kind, .string ⟨n2.text.toArray⟩, .int .i64 n2.val.kind, .int .i64 n2.val.num, .string ⟨n2.val.str.toArray⟩, .slice none 0 0, .slice none 0 0, .bool n2.flag, .slice A2 n2.kids.length c2, .int .i64 n2.spot, .int .i64 mm.kind, .string ⟨mm.text.toArray⟩, .int .i64 mm.val.kind, .int .i64 mm.val.num, .string ⟨mm.val.str.toArray⟩, .slice none 0 0, .slice none 0 0, .bool mm.flag, .slice A8 mm.kids.length c8, .int .i64 mm.spot] 29)
              have hfr := ten_res w3.heap.size (.int .i64 21) (.string ⟨#[]⟩) (.int .i64 0) (.int .i64 0) (.string ⟨#[]⟩) (.slice none 0 0) (.slice none 0 0) (.bool false) (.slice (some ⟨w7.heap.size, 0, none⟩) 2 2) (.int .i64 (X.pos : Int)) (w7.alloc (.cells #[.int .i64 n2.kind, .string ⟨n2.text.toArray⟩, .int .i64 n2.val.kind, .int .i64 n2.val.num, .string ⟨n2.val.str.toArray⟩, .slice none 0 0, .slice none 0 0, .bool n2.flag, .slice A2 n2.kids.length c2, .int .i64 n2.spot, .int .i64 mm.kind, .string ⟨mm.text.toArray⟩, .int .i64 mm.val.kind, .int .i64 mm.val.num, .string ⟨mm.val.str.toArray⟩, .slice none 0 0, .slice none 0 0, .bool mm.flag, .slice A8 mm.kids.length c8, .int .i64 mm.spot] 29))
              have hbx := ten_set (HB7.out.below hal) (.int .i64 21) (.string ⟨#[]⟩) (.int .i64 0) (.int .i64 0) (.string ⟨#[]⟩) (.slice none 0 0) (.slice none 0 0) (.bool false) (.slice (some ⟨w7.heap.size, 0, none⟩) 2 2) (.int .i64 (X.pos : Int))
              have hPt := HP7.out.ltt
              have HP9 := Lib.hid ((HP7.out.below hal).fr hfr (by omega) (by omega))
              have HY9 := Lib.hid ((HY7.out.below hal).fr hfr (by omega))
              have HX9 := Lib.hid ((HX7.out.below hal).fr hfr (by omega))
              have HF9 := Lib.hid ((HF7.out.below hal).past hfr (fun b hb h => by omega))
              have hat9 := Hat.out
              have HK9 := (KidRow.pair (ok := fun b => w.heap.size + 1 < b ∧ b ≠ w3.heap.size) HO7.out HM7.out (fun b h1 h2 => by omega) (fun b _ h => h.1) (fun b _ h => by omega) (by omega) _ rfl).fr hfr (fun b hb h1 h2 => by omega)
              have HO9 := Lib.hid (OwN.of (n := nodeP 21 [] [n2, mm] X.pos) (by constructor <;> simp [N.kind]) (by constructor <;> simp [N.spot] <;> omega) (by simp [N.text] <;> omega) ⟨by constructor <;> simp [V.kind, V.zero, N.val], by constructor <;> simp [V.num, V.zero, N.val], by simp [V.str, V.zero, N.val], rfl, rfl⟩ (by simp [N.kids]) HK9)
              have HB9 := Lib.hid hbx
              clear hbx hfr hal hat9 HK9 u0 u1 u2 u3 u4 u5 u6 u7 u8 u9 v0 v1 v2 v3 v4 v5 v6 v7 v8 v9 d0 d1 d2 d3 d4 d5 d6 d7 d8 d9 i0 i1 i2 i3 i4 i5 i6 i7 i8 i9 a0 a1 a2 a3
              generalize (((((((((((w7.alloc (.cells #[.int .i64 n2.kind, .string ⟨n2.text.toArray⟩, .int .i64 n2.val.kind, .int .i64 n2.val.num, .string ⟨n2.val.str.toArray⟩, .slice none 0 0, .slice none 0 0, .bool n2.flag, .slice A2 n2.kids.length c2, .int .i64 n2.spot, .int .i64 mm.kind, .string ⟨mm.text.toArray⟩, .int .i64 mm.val.kind, .int .i64 mm.val.num, .string ⟨mm.val.str.toArray⟩, .slice none 0 0, .slice none 0 0, .bool mm.flag, .slice A8 mm.kids.length c8, .int .i64 mm.spot] 29)).setCell ⟨w3.heap.size, 0, none⟩ (.int .i64 21)).setCell ⟨w3.heap.size, 1, none⟩ (.string ⟨#[]⟩)).setCell ⟨w3.heap.size, 2, none⟩ (.int .i64 0)).setCell ⟨w3.heap.size, 3, none⟩ (.int .i64 0)).setCell ⟨w3.heap.size, 4, none⟩ (.string ⟨#[]⟩)).setCell ⟨w3.heap.size, 5, none⟩ (.slice none 0 0)).setCell ⟨w3.heap.size, 6, none⟩ (.slice none 0 0)).setCell ⟨w3.heap.size, 7, none⟩ (.bool false)).setCell ⟨w3.heap.size, 8, none⟩ (.slice (some ⟨w7.heap.size, 0, none⟩) 2 2)).setCell ⟨w3.heap.size, 9, none⟩ (.int .i64 (X.pos : Int))) = W9 at *
              go_roundg j
              case measure => omega
              case rel => exact ⟨by omega, nodeP 21 [] [n2, mm] X.pos, some ⟨w7.heap.size, 0, none⟩, 2, _, HP9.out, HF9.out, HY9.out, HX9.out, HB9.out, HO9.out, HQ3.out⟩
      | false =>
        have HQ := Lib.hid (show (if isT [46] (T.drop k2) = true then (nameT (T.drop (k2 + 1))).bind fun t r => pPostT j o (nodeP 22 t.text [n2] X.pos) r else PR.ok n2 (T.drop k2)) = R by rw [← HR2.out, if_neg (show ¬ isT [91] (T.drop k2) = true by rw [hi]; simp)])
        refine (p_is_at HP.out [91] false hi).mono ?_
        rintro e w4 ⟨rfl, hb4⟩
        have HP4 := Lib.hid (HP.out.below hb4)
        have HF4 := Lib.hid (HF.out.below hb4)
        have HY4 := Lib.hid (HX1.out.below hb4)
        have HX4 := Lib.hid (HX.out.below hb4)
        have HB4 := Lib.hid (HB.out.below hb4)
        have HO4 := Lib.hid (HO.out.below hb4)
        have p1 := bcell hb4 p0
        have hz4 := hb4.size
        clear hb4 hi p0 HP HF HX1 HX HB HO
        go_wp2_with fail
        cases hd : isT [46] (T.drop k2) with
        | false =>
          have HQ2 := Lib.hid (show R = .ok n2 (T.drop k2) by rw [← HQ.out, if_neg (show ¬ isT [46] (T.drop k2) = true by rw [hd]; simp)])
          refine (p_is_at HP4.out [46] false hd).mono ?_
          rintro e w5 ⟨rfl, hb5⟩
          have hPe := HP4.out.below hb5
          have HE := Lib.hid (EndN.ret hlg hlt HQ2.out hPe (HF4.out.below hb5) ((HO4.out.below hb5).imp (fun b _ h => show w.heap.size + 2 ≤ b by omega)) (show w.heap.size ≤ w.heap.size + 1 by omega) (by omega))
          obtain ⟨r0, r1, r2, r3, r4, r5, r6, r7, r8, r9⟩ := ten_cells (HX4.out.below hb5)
          obtain ⟨m0, m1, m2, m3, m4, m5, m6, m7, m8, m9⟩ := ten_melt (HX4.out.below hb5)
          obtain ⟨t0, t1, t2, t3, t4, t5, t6, t7, t8, t9⟩ := ten_cells (HB4.out.below hb5)
          clear hPe hb5 hd p1
          go_wp2_with fail
          refine bodyPost_ret (v := valO n2 (.slice A2 n2.kids.length c2)) (by simp [results, Tryz.results168, go_sem, r0, r1, r2, r3, r4, r5, r6, r7, r8, r9]) rfl ?_
          exact HE.out
        | true =>
          have HQ2 := Lib.hid (show (nameT (T.drop (k2 + 1))).bind (fun t r => pPostT j o (nodeP 22 t.text [n2] X.pos) r) = R by rw [← HQ.out, if_pos hd])
          have hk3 := Hnk.out _ hd
          refine (p_is_at HP4.out [46] true hd).mono ?_
          rintro e w5 ⟨rfl, hb5⟩
          have HP5 := Lib.hid (HP4.out.below hb5)
          have HF5 := Lib.hid (HF4.out.below hb5)
          have HY5 := Lib.hid (HY4.out.below hb5)
          have HX5 := Lib.hid (HX4.out.below hb5)
          have HB5 := Lib.hid (HB4.out.below hb5)
          have HO5 := Lib.hid (HO4.out.below hb5)
          have p2 := bcell hb5 p1
          clear hb5 hd p1 HP4 HF4 HY4 HX4 HB4 HO4 HQ
          go_wp2_with fail
          refine (p_next HP5.out hk3).mono ?_
          rintro e w6 ⟨rfl, hP6, hF6⟩
          rw [HXX.out]
          have hal := p_al w6 (.cells #[.int .i64 (X.kind : Int), .string ⟨X.text.toArray⟩, .int .i64 (X.n : Int), .int .i64 (X.pos : Int)] 41)
          have hz6 := hF6.size
          have HT7 := Lib.hid (Box.new w6 #[.int .i64 (X.kind : Int), .string ⟨X.text.toArray⟩, .int .i64 (X.n : Int), .int .i64 (X.pos : Int)] 41)
          have HP7 := Lib.hid (hP6.below hal)
          have HF7 := Lib.hid ((HF5.out.trans hF6).below hal)
          have HY7 := Lib.hid ((HY5.out.fr hF6 (by omega)).below hal)
          have HX7 := Lib.hid ((HX5.out.fr hF6 (by omega)).below hal)
          have HB7 := Lib.hid ((HB5.out.fr hF6 (by omega)).below hal)
          have HO7 := Lib.hid ((HO5.out.fr hF6 (fun b _ h1 h2 => by omega)).below hal)
          have hlb := (HB5.out.fr hF6 (by omega)).lt
          have hw7 : w6.heap.size < (w6.alloc (.cells #[.int .i64 (X.kind : Int), .string ⟨X.text.toArray⟩, .int .i64 (X.n : Int), .int .i64 (X.pos : Int)] 41)).heap.size := by simp
          clear hP6 hF6 hal HP5 HF5 HY5 HX5 HB5 HO5 p2 hz6
          go_upto_region 9 with fail
          generalize (w6.alloc (.cells #[.int .i64 (X.kind : Int), .string ⟨X.text.toArray⟩, .int .i64 (X.n : Int), .int .i64 (X.pos : Int)] 41)) = w7 at *
          cases hnm : (((tkAt T (k2 + 1)).kind : Int) != 1) with
          | true =>
            have HQ3 := Lib.hid (show R = .bad 170 (tkAt T (k2 + 1)).pos by rw [← HQ2.out, nameT, hd_tkAt T (k2 + 1) hk3, if_neg (by simp at hnm; omega)]; rfl)
            have HS := Lib.hid (show ∀ W, W.heap = w7.heap → (W.cell? ⟨w6.heap.size, 3, none⟩ = some (.int .i64 (X.pos : Int)) ∧ W.cell? ⟨w.heap.size, 0, none⟩ = some (pPtr g)) ∧ Cells14 w6.heap.size w3.heap.size _ _ _ _ _ _ _ _ _ _ _ _ _ _ W from fun W hW => ⟨⟨(show Box w6.heap.size _ _ W from HT7.out.of (by rw [hW])).cell 3 rfl, (show Box w.heap.size _ _ W from HY7.out.of (by rw [hW])).cell 0 rfl⟩, cells14 (show Box w6.heap.size _ _ W from HT7.out.of (by rw [hW])) (show Box w3.heap.size _ _ W from HB7.out.of (by rw [hW]))⟩)
            refine wp_region_held_drew (S := fun W => (W.cell? ⟨w6.heap.size, 3, none⟩ = some (.int .i64 (X.pos : Int)) ∧ W.cell? ⟨w.heap.size, 0, none⟩ = some (pPtr g)) ∧ Cells14 w6.heap.size w3.heap.size _ _ _ _ _ _ _ _ _ _ _ _ _ _ W) (by kernel_rfl) (HS.out w7.drew rfl) (fun hHeld => ?_)
            refine wpAnyH_take (i := 0) (v := ?vA0) rfl (by kernel_rfl) (by kernel_rfl) (by kernel_rfl) (fun _ _ _ h => h) (Or.inl ⟨by rfl, ?yA0⟩) (by assumption) ?rA0
            case yA0 => (intro W hSw; (obtain ⟨⟨a3, ap⟩, hc⟩ := hSw); go_simp; try with_reducible rfl)
            try simp only [Act.put, List.setIfInBounds_toArray, List.set_cons_zero, List.set_cons_succ]
            refine wpAnyH_take (i := 1) (v := ?vA1) rfl (by kernel_rfl) (by kernel_rfl) (by kernel_rfl) (fun _ _ _ h => h) (Or.inl ⟨by rfl, ?yA1⟩) (by assumption) ?rA1
            case yA1 => (intro W hSw; (obtain ⟨⟨a3, ap⟩, hc⟩ := hSw); go_simp; try with_reducible rfl)
            try simp only [Act.put, List.setIfInBounds_toArray, List.set_cons_zero, List.set_cons_succ]
            refine wpAnyH_take (i := 2) (v := ?vA2) rfl (by kernel_rfl) (by kernel_rfl) (by kernel_rfl) (fun _ _ _ h => h) (Or.inl ⟨by rfl, ?yA2⟩) (by assumption) ?rA2
            case yA2 => (intro W hSw; (obtain ⟨⟨a3, ap⟩, hc⟩ := hSw); go_simp; try with_reducible rfl)
            try simp only [Act.put, List.setIfInBounds_toArray, List.set_cons_zero, List.set_cons_succ]
            refine wpAnyH_take (i := 5) (v := ?vA5) rfl (by kernel_rfl) (by kernel_rfl) (by kernel_rfl) (fun _ _ _ h => h) (Or.inl ⟨by rfl, ?yA5⟩) (by assumption) ?rA5
            case yA5 => (intro W hSw; (obtain ⟨⟨a3, ap⟩, e0, e1, e2, e3, c0, c1, c2, c3, c4, c5, c6, c7, c8, c9⟩ := hSw); go_simp; try with_reducible rfl)
            try simp only [Act.put, List.setIfInBounds_toArray, List.set_cons_zero, List.set_cons_succ]
            refine wpAnyH_ready (rs := [3, 6]) (by kernel_rfl) (by simp) ?_
            refine AllReadyH.cons rfl (fun K hK => ?_) (AllReadyH.cons rfl (fun K hK => ?_) AllReadyH.nil)
            · go_simp
              refine (p_name_no (HP7.out.same (W' := w7.drew) rfl) hnm).mono ?_
              rintro e w8 ⟨rfl, hb8⟩
              exact ⟨rfl, .inl ⟨_, _, HQ3.out, rfl, HF7.out.drew.below hb8⟩⟩
            · go_simp
              have HT9 := Lib.hid (Box.below (show Box w6.heap.size _ _ w7.drew from HT7.out) (p_al w7.drew (.cells #[.int .i64 n2.kind, .string ⟨n2.text.toArray⟩, .int .i64 n2.val.kind, .int .i64 n2.val.num, .string ⟨n2.val.str.toArray⟩, .slice none 0 0, .slice none 0 0, .bool n2.flag, .slice A2 n2.kids.length c2, .int .i64 n2.spot] 29)))
              have HB9 := Lib.hid (Box.below (show Box w3.heap.size _ _ w7.drew from HB7.out) (p_al w7.drew (.cells #[.int .i64 n2.kind, .string ⟨n2.text.toArray⟩, .int .i64 n2.val.kind, .int .i64 n2.val.num, .string ⟨n2.val.str.toArray⟩, .slice none 0 0, .slice none 0 0, .bool n2.flag, .slice A2 n2.kids.length c2, .int .i64 n2.spot] 29)))
              have HY9 := Lib.hid (Box.below (show Box w.heap.size _ _ w7.drew from HY7.out) (p_al w7.drew (.cells #[.int .i64 n2.kind, .string ⟨n2.text.toArray⟩, .int .i64 n2.val.kind, .int .i64 n2.val.num, .string ⟨n2.val.str.toArray⟩, .slice none 0 0, .slice none 0 0, .bool n2.flag, .slice A2 n2.kids.length c2, .int .i64 n2.spot] 29)))
              refine hK.out _ _ (by exact ⟨⟨HT9.out.cell 3 rfl, HY9.out.cell 0 rfl⟩, cells14 HT9.out HB9.out⟩) (fun hHeld => ?_)
              clear hK K
              try simp only [Act.put, List.setIfInBounds_toArray, List.set_cons_zero, List.set_cons_succ]
              refine wpAnyH_ready (rs := [3]) (by kernel_rfl) (by simp) ?_
              refine AllReadyH.cons rfl (fun K hK => ?_) AllReadyH.nil
              go_simp
              refine (p_name_no (PSt.below (HP7.out.same (W' := w7.drew) rfl) (p_al w7.drew (.cells #[.int .i64 n2.kind, .string ⟨n2.text.toArray⟩, .int .i64 n2.val.kind, .int .i64 n2.val.num, .string ⟨n2.val.str.toArray⟩, .slice none 0 0, .slice none 0 0, .bool n2.flag, .slice A2 n2.kids.length c2, .int .i64 n2.spot] 29))) hnm).mono ?_
              rintro e w8 ⟨rfl, hb8⟩
              exact ⟨rfl, .inl ⟨_, _, HQ3.out, rfl, (HF7.out.drew.below (p_al w7.drew (.cells #[.int .i64 n2.kind, .string ⟨n2.text.toArray⟩, .int .i64 n2.val.kind, .int .i64 n2.val.num, .string ⟨n2.val.str.toArray⟩, .slice none 0 0, .slice none 0 0, .bool n2.flag, .slice A2 n2.kids.length c2, .int .i64 n2.spot] 29))).below hb8⟩⟩
          | false =>
            have hk4 := hT.next hk3 (show (tkAt T (k2 + 1)).kind ≠ 0 by simp at hnm; omega)
            have HQ3 := Lib.hid (show pPostT j o (nodeP 22 (tkAt T (k2 + 1)).text [n2] X.pos) (T.drop (k2 + 1 + 1)) = R by rw [← HQ2.out, nameT, hd_tkAt T (k2 + 1) hk3, if_pos (by simp at hnm; omega), drop_tail]; rfl)
            have HNm := Lib.hid (fun W (hW : PSt T gt cap g (k2 + 1) o W) => p_name_yes hT hW hnm)
            have hyat := hT.at hk3
            have Hyat := Lib.hid hyat
            clear hyat hnm
            generalize tkAt T (k2 + 1) = Y at *
            have hf1 := tok_f1 Y
            have HS := Lib.hid (show ∀ W, W.heap = w7.heap → (W.cell? ⟨w6.heap.size, 3, none⟩ = some (.int .i64 (X.pos : Int)) ∧ W.cell? ⟨w.heap.size, 0, none⟩ = some (pPtr g)) from fun W hW => ⟨(show Box w6.heap.size _ _ W from HT7.out.of (by rw [hW])).cell 3 rfl, (show Box w.heap.size _ _ W from HY7.out.of (by rw [hW])).cell 0 rfl⟩)
            obtain ⟨d0, d1, d2, d3, d4, d5, d6, d7, d8, d9⟩ := ten_cells (show Box w3.heap.size _ _ w7.drew from HB7.out)
            refine wp_region_held_drew (S := fun W => W.cell? ⟨w6.heap.size, 3, none⟩ = some (.int .i64 (X.pos : Int)) ∧ W.cell? ⟨w.heap.size, 0, none⟩ = some (pPtr g)) (by kernel_rfl) (HS.out w7.drew rfl) (fun hHeld => ?_)
            refine wpAnyH_take (i := 0) (v := ?vB0) rfl (by kernel_rfl) (by kernel_rfl) (by kernel_rfl) (fun _ _ _ h => h) (Or.inl ⟨by rfl, ?yB0⟩) (by assumption) ?rB0
            case yB0 => (intro W hSw; (obtain ⟨a3, ap⟩ := hSw); go_simp; try with_reducible rfl)
            try simp only [Act.put, List.setIfInBounds_toArray, List.set_cons_zero, List.set_cons_succ]
            refine wpAnyH_take (i := 1) (v := ?vB1) rfl (by kernel_rfl) (by kernel_rfl) (by kernel_rfl) (fun _ _ _ h => h) (Or.inl ⟨by rfl, ?yB1⟩) (by assumption) ?rB1
            case yB1 => (intro W hSw; (obtain ⟨a3, ap⟩ := hSw); go_simp; try with_reducible rfl)
            try simp only [Act.put, List.setIfInBounds_toArray, List.set_cons_zero, List.set_cons_succ]
            refine wpAnyH_take (i := 2) (v := ?vB2) rfl (by kernel_rfl) (by kernel_rfl) (by kernel_rfl) (fun _ _ _ h => h) (Or.inl ⟨by rfl, ?yB2⟩) (by assumption) ?rB2
            case yB2 => (intro W hSw; (obtain ⟨a3, ap⟩ := hSw); go_simp; try with_reducible rfl)
            try simp only [Act.put, List.setIfInBounds_toArray, List.set_cons_zero, List.set_cons_succ]
            refine wpAnyH_ready (rs := [3, 5]) (by kernel_rfl) (by simp) ?_
            refine AllReadyH.cons rfl (fun K hK => ?_) (AllReadyH.cons rfl (fun K hK => ?_) AllReadyH.nil)
            · clear d0 d1 d2 d3 d4 d5 d6 d7 d8 d9
              go_simp
              refine (HNm.out w7.drew (HP7.out.same rfl)).mono ?_
              rintro e w8 ⟨rfl, hP8, hF8⟩
              have HT8 := Lib.hid (Box.fr (show Box w6.heap.size _ _ w7.drew from HT7.out) hF8 (by omega))
              have HB8 := Lib.hid (Box.fr (show Box w3.heap.size _ _ w7.drew from HB7.out) hF8 (by omega))
              have HX8 := Lib.hid (Box.fr (show Box (w.heap.size + 1) _ _ w7.drew from HX7.out) hF8 (by omega))
              have HY8 := Lib.hid (Box.fr (show Box w.heap.size _ _ w7.drew from HY7.out) hF8 (by omega))
              have HP8 := Lib.hid hP8
              have HF8 := Lib.hid (HF7.out.drew.trans hF8)
              have HN8 := Lib.hid (OwN.fr hF8 (fun b _ h1 h2 => by omega) (show OwN (fun b => (w.heap.size + 1 < b ∧ b ≠ w3.heap.size) ∧ b < w7.heap.size) w7.drew _ n2 from (HO7.out.lt).drew))
              have hz8 : w7.heap.size ≤ w8.heap.size := hF8.size
              clear hP8 hF8
              refine hK.out _ _ (by exact ⟨HT8.out.cell 3 rfl, HY8.out.cell 0 rfl⟩) (fun hHeld => ?_)
              clear hK K
              try simp only [Act.put, List.setIfInBounds_toArray, List.set_cons_zero, List.set_cons_succ]
              refine wpAnyH_take (i := 4) (v := ?vCa4) rfl (by kernel_rfl) (by kernel_rfl) (by kernel_rfl) (fun _ _ _ h => h) (Or.inl ⟨by rfl, ?yCa4⟩) (by assumption) ?rCa4
              case yCa4 => (intro W hSw; go_simp; try with_reducible rfl)
              try simp only [Act.put, List.setIfInBounds_toArray, List.set_cons_zero, List.set_cons_succ]
              obtain ⟨d0, d1, d2, d3, d4, d5, d6, d7, d8, d9⟩ := ten_cells HB8.out
              refine wpAnyH_ready (rs := [5]) (by kernel_rfl) (by simp) ?_
              refine AllReadyH.cons rfl (fun K hK => ?_) AllReadyH.nil
              go_simp
              refine hK.out _ _ (by exact ⟨HT8.out.cell 3 rfl, HY8.out.cell 0 rfl⟩) (fun hHeld => ?_)
              clear hK K
              try simp only [Act.put, List.setIfInBounds_toArray, List.set_cons_zero, List.set_cons_succ]
              refine wpAnyH_ready (rs := [6]) (by kernel_rfl) (by simp) ?_
              refine AllReadyH.cons rfl (fun K hK => ?_) AllReadyH.nil
              go_simp
              refine hK.out _ _ (by exact ⟨bcell (p_al w8 _) (HT8.out.cell 3 rfl), bcell (p_al w8 _) (HY8.out.cell 0 rfl)⟩) (fun hHeld => ?_)
              clear hK K
              try simp only [Act.put, List.setIfInBounds_toArray, List.set_cons_zero, List.set_cons_succ]
              refine wpAnyH_ready (rs := [7]) (by kernel_rfl) (by simp) ?_
              refine AllReadyH.cons rfl (fun K hK => ?_) AllReadyH.nil
              go_simp
              refine hK.out _ _ (by exact ⟨bcell (p_al w8 _) (HT8.out.cell 3 rfl), bcell (p_al w8 _) (HY8.out.cell 0 rfl)⟩) (fun hHeld => ?_)
              clear hK K
              try simp only [Act.put, List.setIfInBounds_toArray, List.set_cons_zero, List.set_cons_succ]
              have v0 : ∀ X, (w8.alloc X).frozen? ⟨w3.heap.size, 0, none⟩ = false := fun X => (HB8.out.below (p_al w8 X)).melt 0
              have v1 : ∀ X, (w8.alloc X).frozen? ⟨w3.heap.size, 1, none⟩ = false := fun X => (HB8.out.below (p_al w8 X)).melt 1
              have v2 : ∀ X, (w8.alloc X).frozen? ⟨w3.heap.size, 2, none⟩ = false := fun X => (HB8.out.below (p_al w8 X)).melt 2
              have v3 : ∀ X, (w8.alloc X).frozen? ⟨w3.heap.size, 3, none⟩ = false := fun X => (HB8.out.below (p_al w8 X)).melt 3
              have v4 : ∀ X, (w8.alloc X).frozen? ⟨w3.heap.size, 4, none⟩ = false := fun X => (HB8.out.below (p_al w8 X)).melt 4
              have v5 : ∀ X, (w8.alloc X).frozen? ⟨w3.heap.size, 5, none⟩ = false := fun X => (HB8.out.below (p_al w8 X)).melt 5
              have v6 : ∀ X, (w8.alloc X).frozen? ⟨w3.heap.size, 6, none⟩ = false := fun X => (HB8.out.below (p_al w8 X)).melt 6
              have v7 : ∀ X, (w8.alloc X).frozen? ⟨w3.heap.size, 7, none⟩ = false := fun X => (HB8.out.below (p_al w8 X)).melt 7
              have v8 : ∀ X, (w8.alloc X).frozen? ⟨w3.heap.size, 8, none⟩ = false := fun X => (HB8.out.below (p_al w8 X)).melt 8
              have v9 : ∀ X, (w8.alloc X).frozen? ⟨w3.heap.size, 9, none⟩ = false := fun X => (HB8.out.below (p_al w8 X)).melt 9
              have u0 : ∀ X, (w8.alloc X).cell? ⟨w3.heap.size, 0, none⟩ = some (.int .i64 n2.kind) := fun X => (HB8.out.below (p_al w8 X)).cell 0 rfl
              have u1 : ∀ X, (w8.alloc X).cell? ⟨w3.heap.size, 1, none⟩ = some (.string ⟨n2.text.toArray⟩) := fun X => (HB8.out.below (p_al w8 X)).cell 1 rfl
              have u2 : ∀ X, (w8.alloc X).cell? ⟨w3.heap.size, 2, none⟩ = some (.int .i64 n2.val.kind) := fun X => (HB8.out.below (p_al w8 X)).cell 2 rfl
              have u3 : ∀ X, (w8.alloc X).cell? ⟨w3.heap.size, 3, none⟩ = some (.int .i64 n2.val.num) := fun X => (HB8.out.below (p_al w8 X)).cell 3 rfl
              have u4 : ∀ X, (w8.alloc X).cell? ⟨w3.heap.size, 4, none⟩ = some (.string ⟨n2.val.str.toArray⟩) := fun X => (HB8.out.below (p_al w8 X)).cell 4 rfl
              have u5 : ∀ X, (w8.alloc X).cell? ⟨w3.heap.size, 5, none⟩ = some (.slice none 0 0) := fun X => (HB8.out.below (p_al w8 X)).cell 5 rfl
              have u6 : ∀ X, (w8.alloc X).cell? ⟨w3.heap.size, 6, none⟩ = some (.slice none 0 0) := fun X => (HB8.out.below (p_al w8 X)).cell 6 rfl
              have u7 : ∀ X, (w8.alloc X).cell? ⟨w3.heap.size, 7, none⟩ = some (.bool n2.flag) := fun X => (HB8.out.below (p_al w8 X)).cell 7 rfl
              have u8 : ∀ X, (w8.alloc X).cell? ⟨w3.heap.size, 8, none⟩ = some (.slice A2 n2.kids.length c2) := fun X => (HB8.out.below (p_al w8 X)).cell 8 rfl
              have u9 : ∀ X, (w8.alloc X).cell? ⟨w3.heap.size, 9, none⟩ = some (.int .i64 n2.spot) := fun X => (HB8.out.below (p_al w8 X)).cell 9 rfl
              refine wpAnyH_ready (rs := [8]) (by kernel_rfl) (by simp) ?_
              refine AllReadyH.cons rfl (fun K hK => ?_) AllReadyH.nil
              go_simp
              have hal := p_al w8 (.cells #[.int .i64 n2.kind, .string ⟨n2.text.toArray⟩, .int .i64 n2.val.kind, .int .i64 n2.val.num, .string ⟨n2.val.str.toArray⟩, .slice none 0 0, .slice none 0 0, .bool n2.flag, .slice A2 n2.kids.length c2, .int .i64 n2.spot] 29)
              have hfr := ten_res w3.heap.size (.int .i64 22) (.string ⟨Y.text.toArray⟩) (.int .i64 0) (.int .i64 0) (.string ⟨#[]⟩) (.slice none 0 0) (.slice none 0 0) (.bool false) (.slice (some ⟨w8.heap.size, 0, none⟩) 1 1) (.int .i64 (X.pos : Int)) (w8.alloc (.cells #[.int .i64 n2.kind, .string ⟨n2.text.toArray⟩, .int .i64 n2.val.kind, .int .i64 n2.val.num, .string ⟨n2.val.str.toArray⟩, .slice none 0 0, .slice none 0 0, .bool n2.flag, .slice A2 n2.kids.length c2, .int .i64 n2.spot] 29))
              have hbx := ten_set (HB8.out.below hal) (.int .i64 22) (.string ⟨Y.text.toArray⟩) (.int .i64 0) (.int .i64 0) (.string ⟨#[]⟩) (.slice none 0 0) (.slice none 0 0) (.bool false) (.slice (some ⟨w8.heap.size, 0, none⟩) 1 1) (.int .i64 (X.pos : Int))
              refine hK.out _ _ (by exact ⟨hfr.cell (bcell hal (HT8.out.cell 3 rfl)) (show ¬ w3.heap.size = w6.heap.size by omega), hfr.cell (bcell hal (HY8.out.cell 0 rfl)) (show ¬ w3.heap.size = w.heap.size by omega)⟩) (fun hHeld => ?_)
              clear hK K
              have hPt := HP8.out.ltt
              have HP9 := Lib.hid ((HP8.out.below hal).fr hfr (by omega) (by omega))
              have HY9 := Lib.hid ((HY8.out.below hal).fr hfr (by omega))
              have HX9 := Lib.hid ((HX8.out.below hal).fr hfr (by omega))
              have HF9 := Lib.hid ((HF8.out.below hal).past hfr (fun b hb h => by omega))
              have hat9 := Hat.out
              have hyat9 := Hyat.out
              have HK9 := (KidRow.lit1 (ok := fun b => w.heap.size + 1 < b ∧ b ≠ w3.heap.size) HN8.out (fun b _ h => h.1) (by omega) _ rfl).fr hfr (fun b hb h1 h2 => by omega)
              have HO9 := Lib.hid (OwN.of (n := nodeP 22 Y.text [n2] X.pos) (by constructor <;> simp [N.kind]) (by constructor <;> simp [N.spot] <;> omega) (by simp [N.text] <;> omega) ⟨by constructor <;> simp [V.kind, V.zero, N.val], by constructor <;> simp [V.num, V.zero, N.val], by simp [V.str, V.zero, N.val], rfl, rfl⟩ (by simp [N.kids]) HK9)
              have HB9 := Lib.hid hbx
              clear hbx hfr hat9 hyat9 HK9 hal u0 u1 u2 u3 u4 u5 u6 u7 u8 u9 v0 v1 v2 v3 v4 v5 v6 v7 v8 v9 d0 d1 d2 d3 d4 d5 d6 d7 d8 d9 hf1
              refine wpAnyH_done (by kernel_rfl) ?_ _
              clear hHeld
              generalize (((((((((((w8.alloc (.cells #[.int .i64 n2.kind, .string ⟨n2.text.toArray⟩, .int .i64 n2.val.kind, .int .i64 n2.val.num, .string ⟨n2.val.str.toArray⟩, .slice none 0 0, .slice none 0 0, .bool n2.flag, .slice A2 n2.kids.length c2, .int .i64 n2.spot] 29)).setCell ⟨w3.heap.size, 0, none⟩ (.int .i64 22)).setCell ⟨w3.heap.size, 1, none⟩ (.string ⟨Y.text.toArray⟩)).setCell ⟨w3.heap.size, 2, none⟩ (.int .i64 0)).setCell ⟨w3.heap.size, 3, none⟩ (.int .i64 0)).setCell ⟨w3.heap.size, 4, none⟩ (.string ⟨#[]⟩)).setCell ⟨w3.heap.size, 5, none⟩ (.slice none 0 0)).setCell ⟨w3.heap.size, 6, none⟩ (.slice none 0 0)).setCell ⟨w3.heap.size, 7, none⟩ (.bool false)).setCell ⟨w3.heap.size, 8, none⟩ (.slice (some ⟨w8.heap.size, 0, none⟩) 1 1)).setCell ⟨w3.heap.size, 9, none⟩ (.int .i64 (X.pos : Int))) = W9 at *
              go_wp2_with fail
              go_roundg j
              case measure => omega
              case rel => exact ⟨by omega, nodeP 22 Y.text [n2] X.pos, some ⟨w8.heap.size, 0, none⟩, 1, _, HP9.out, HF9.out, HY9.out, HX9.out, HB9.out, HO9.out, HQ3.out⟩
            · go_simp
              refine hK.out _ _ (by exact ⟨HT7.out.cell 3 rfl, HY7.out.cell 0 rfl⟩) (fun hHeld => ?_)
              clear hK K
              try simp only [Act.put, List.setIfInBounds_toArray, List.set_cons_zero, List.set_cons_succ]
              refine wpAnyH_ready (rs := [3, 6]) (by kernel_rfl) (by simp) ?_
              refine AllReadyH.cons rfl (fun K hK => ?_) (AllReadyH.cons rfl (fun K hK => ?_) AllReadyH.nil)
              · clear d0 d1 d2 d3 d4 d5 d6 d7 d8 d9
                go_simp
                refine (HNm.out w7.drew (HP7.out.same rfl)).mono ?_
                rintro e w8 ⟨rfl, hP8, hF8⟩
                have HT8 := Lib.hid (Box.fr (show Box w6.heap.size _ _ w7.drew from HT7.out) hF8 (by omega))
                have HB8 := Lib.hid (Box.fr (show Box w3.heap.size _ _ w7.drew from HB7.out) hF8 (by omega))
                have HX8 := Lib.hid (Box.fr (show Box (w.heap.size + 1) _ _ w7.drew from HX7.out) hF8 (by omega))
                have HY8 := Lib.hid (Box.fr (show Box w.heap.size _ _ w7.drew from HY7.out) hF8 (by omega))
                have HP8 := Lib.hid hP8
                have HF8 := Lib.hid (HF7.out.drew.trans hF8)
                have HN8 := Lib.hid (OwN.fr hF8 (fun b _ h1 h2 => by omega) (show OwN (fun b => (w.heap.size + 1 < b ∧ b ≠ w3.heap.size) ∧ b < w7.heap.size) w7.drew _ n2 from (HO7.out.lt).drew))
                have hz8 : w7.heap.size ≤ w8.heap.size := hF8.size
                clear hP8 hF8
                refine hK.out _ _ (by exact ⟨HT8.out.cell 3 rfl, HY8.out.cell 0 rfl⟩) (fun hHeld => ?_)
                clear hK K
                try simp only [Act.put, List.setIfInBounds_toArray, List.set_cons_zero, List.set_cons_succ]
                refine wpAnyH_take (i := 4) (v := ?vCb4) rfl (by kernel_rfl) (by kernel_rfl) (by kernel_rfl) (fun _ _ _ h => h) (Or.inl ⟨by rfl, ?yCb4⟩) (by assumption) ?rCb4
                case yCb4 => (intro W hSw; go_simp; try with_reducible rfl)
                try simp only [Act.put, List.setIfInBounds_toArray, List.set_cons_zero, List.set_cons_succ]
                obtain ⟨d0, d1, d2, d3, d4, d5, d6, d7, d8, d9⟩ := ten_cells HB8.out
                refine wpAnyH_ready (rs := [6]) (by kernel_rfl) (by simp) ?_
                refine AllReadyH.cons rfl (fun K hK => ?_) AllReadyH.nil
                go_simp
                refine hK.out _ _ (by exact ⟨bcell (p_al w8 _) (HT8.out.cell 3 rfl), bcell (p_al w8 _) (HY8.out.cell 0 rfl)⟩) (fun hHeld => ?_)
                clear hK K
                try simp only [Act.put, List.setIfInBounds_toArray, List.set_cons_zero, List.set_cons_succ]
                refine wpAnyH_ready (rs := [7]) (by kernel_rfl) (by simp) ?_
                refine AllReadyH.cons rfl (fun K hK => ?_) AllReadyH.nil
                go_simp
                refine hK.out _ _ (by exact ⟨bcell (p_al w8 _) (HT8.out.cell 3 rfl), bcell (p_al w8 _) (HY8.out.cell 0 rfl)⟩) (fun hHeld => ?_)
                clear hK K
                try simp only [Act.put, List.setIfInBounds_toArray, List.set_cons_zero, List.set_cons_succ]
                have v0 : ∀ X, (w8.alloc X).frozen? ⟨w3.heap.size, 0, none⟩ = false := fun X => (HB8.out.below (p_al w8 X)).melt 0
                have v1 : ∀ X, (w8.alloc X).frozen? ⟨w3.heap.size, 1, none⟩ = false := fun X => (HB8.out.below (p_al w8 X)).melt 1
                have v2 : ∀ X, (w8.alloc X).frozen? ⟨w3.heap.size, 2, none⟩ = false := fun X => (HB8.out.below (p_al w8 X)).melt 2
                have v3 : ∀ X, (w8.alloc X).frozen? ⟨w3.heap.size, 3, none⟩ = false := fun X => (HB8.out.below (p_al w8 X)).melt 3
                have v4 : ∀ X, (w8.alloc X).frozen? ⟨w3.heap.size, 4, none⟩ = false := fun X => (HB8.out.below (p_al w8 X)).melt 4
                have v5 : ∀ X, (w8.alloc X).frozen? ⟨w3.heap.size, 5, none⟩ = false := fun X => (HB8.out.below (p_al w8 X)).melt 5
                have v6 : ∀ X, (w8.alloc X).frozen? ⟨w3.heap.size, 6, none⟩ = false := fun X => (HB8.out.below (p_al w8 X)).melt 6
                have v7 : ∀ X, (w8.alloc X).frozen? ⟨w3.heap.size, 7, none⟩ = false := fun X => (HB8.out.below (p_al w8 X)).melt 7
                have v8 : ∀ X, (w8.alloc X).frozen? ⟨w3.heap.size, 8, none⟩ = false := fun X => (HB8.out.below (p_al w8 X)).melt 8
                have v9 : ∀ X, (w8.alloc X).frozen? ⟨w3.heap.size, 9, none⟩ = false := fun X => (HB8.out.below (p_al w8 X)).melt 9
                have u0 : ∀ X, (w8.alloc X).cell? ⟨w3.heap.size, 0, none⟩ = some (.int .i64 n2.kind) := fun X => (HB8.out.below (p_al w8 X)).cell 0 rfl
                have u1 : ∀ X, (w8.alloc X).cell? ⟨w3.heap.size, 1, none⟩ = some (.string ⟨n2.text.toArray⟩) := fun X => (HB8.out.below (p_al w8 X)).cell 1 rfl
                have u2 : ∀ X, (w8.alloc X).cell? ⟨w3.heap.size, 2, none⟩ = some (.int .i64 n2.val.kind) := fun X => (HB8.out.below (p_al w8 X)).cell 2 rfl
                have u3 : ∀ X, (w8.alloc X).cell? ⟨w3.heap.size, 3, none⟩ = some (.int .i64 n2.val.num) := fun X => (HB8.out.below (p_al w8 X)).cell 3 rfl
                have u4 : ∀ X, (w8.alloc X).cell? ⟨w3.heap.size, 4, none⟩ = some (.string ⟨n2.val.str.toArray⟩) := fun X => (HB8.out.below (p_al w8 X)).cell 4 rfl
                have u5 : ∀ X, (w8.alloc X).cell? ⟨w3.heap.size, 5, none⟩ = some (.slice none 0 0) := fun X => (HB8.out.below (p_al w8 X)).cell 5 rfl
                have u6 : ∀ X, (w8.alloc X).cell? ⟨w3.heap.size, 6, none⟩ = some (.slice none 0 0) := fun X => (HB8.out.below (p_al w8 X)).cell 6 rfl
                have u7 : ∀ X, (w8.alloc X).cell? ⟨w3.heap.size, 7, none⟩ = some (.bool n2.flag) := fun X => (HB8.out.below (p_al w8 X)).cell 7 rfl
                have u8 : ∀ X, (w8.alloc X).cell? ⟨w3.heap.size, 8, none⟩ = some (.slice A2 n2.kids.length c2) := fun X => (HB8.out.below (p_al w8 X)).cell 8 rfl
                have u9 : ∀ X, (w8.alloc X).cell? ⟨w3.heap.size, 9, none⟩ = some (.int .i64 n2.spot) := fun X => (HB8.out.below (p_al w8 X)).cell 9 rfl
                refine wpAnyH_ready (rs := [8]) (by kernel_rfl) (by simp) ?_
                refine AllReadyH.cons rfl (fun K hK => ?_) AllReadyH.nil
                go_simp
                have hal := p_al w8 (.cells #[.int .i64 n2.kind, .string ⟨n2.text.toArray⟩, .int .i64 n2.val.kind, .int .i64 n2.val.num, .string ⟨n2.val.str.toArray⟩, .slice none 0 0, .slice none 0 0, .bool n2.flag, .slice A2 n2.kids.length c2, .int .i64 n2.spot] 29)
                have hfr := ten_res w3.heap.size (.int .i64 22) (.string ⟨Y.text.toArray⟩) (.int .i64 0) (.int .i64 0) (.string ⟨#[]⟩) (.slice none 0 0) (.slice none 0 0) (.bool false) (.slice (some ⟨w8.heap.size, 0, none⟩) 1 1) (.int .i64 (X.pos : Int)) (w8.alloc (.cells #[.int .i64 n2.kind, .string ⟨n2.text.toArray⟩, .int .i64 n2.val.kind, .int .i64 n2.val.num, .string ⟨n2.val.str.toArray⟩, .slice none 0 0, .slice none 0 0, .bool n2.flag, .slice A2 n2.kids.length c2, .int .i64 n2.spot] 29))
                have hbx := ten_set (HB8.out.below hal) (.int .i64 22) (.string ⟨Y.text.toArray⟩) (.int .i64 0) (.int .i64 0) (.string ⟨#[]⟩) (.slice none 0 0) (.slice none 0 0) (.bool false) (.slice (some ⟨w8.heap.size, 0, none⟩) 1 1) (.int .i64 (X.pos : Int))
                refine hK.out _ _ (by exact ⟨hfr.cell (bcell hal (HT8.out.cell 3 rfl)) (show ¬ w3.heap.size = w6.heap.size by omega), hfr.cell (bcell hal (HY8.out.cell 0 rfl)) (show ¬ w3.heap.size = w.heap.size by omega)⟩) (fun hHeld => ?_)
                clear hK K
                have hPt := HP8.out.ltt
                have HP9 := Lib.hid ((HP8.out.below hal).fr hfr (by omega) (by omega))
                have HY9 := Lib.hid ((HY8.out.below hal).fr hfr (by omega))
                have HX9 := Lib.hid ((HX8.out.below hal).fr hfr (by omega))
                have HF9 := Lib.hid ((HF8.out.below hal).past hfr (fun b hb h => by omega))
                have hat9 := Hat.out
                have hyat9 := Hyat.out
                have HK9 := (KidRow.lit1 (ok := fun b => w.heap.size + 1 < b ∧ b ≠ w3.heap.size) HN8.out (fun b _ h => h.1) (by omega) _ rfl).fr hfr (fun b hb h1 h2 => by omega)
                have HO9 := Lib.hid (OwN.of (n := nodeP 22 Y.text [n2] X.pos) (by constructor <;> simp [N.kind]) (by constructor <;> simp [N.spot] <;> omega) (by simp [N.text] <;> omega) ⟨by constructor <;> simp [V.kind, V.zero, N.val], by constructor <;> simp [V.num, V.zero, N.val], by simp [V.str, V.zero, N.val], rfl, rfl⟩ (by simp [N.kids]) HK9)
                have HB9 := Lib.hid hbx
                clear hbx hfr hat9 hyat9 HK9 hal u0 u1 u2 u3 u4 u5 u6 u7 u8 u9 v0 v1 v2 v3 v4 v5 v6 v7 v8 v9 d0 d1 d2 d3 d4 d5 d6 d7 d8 d9 hf1
                refine wpAnyH_done (by kernel_rfl) ?_ _
                clear hHeld
                generalize (((((((((((w8.alloc (.cells #[.int .i64 n2.kind, .string ⟨n2.text.toArray⟩, .int .i64 n2.val.kind, .int .i64 n2.val.num, .string ⟨n2.val.str.toArray⟩, .slice none 0 0, .slice none 0 0, .bool n2.flag, .slice A2 n2.kids.length c2, .int .i64 n2.spot] 29)).setCell ⟨w3.heap.size, 0, none⟩ (.int .i64 22)).setCell ⟨w3.heap.size, 1, none⟩ (.string ⟨Y.text.toArray⟩)).setCell ⟨w3.heap.size, 2, none⟩ (.int .i64 0)).setCell ⟨w3.heap.size, 3, none⟩ (.int .i64 0)).setCell ⟨w3.heap.size, 4, none⟩ (.string ⟨#[]⟩)).setCell ⟨w3.heap.size, 5, none⟩ (.slice none 0 0)).setCell ⟨w3.heap.size, 6, none⟩ (.slice none 0 0)).setCell ⟨w3.heap.size, 7, none⟩ (.bool false)).setCell ⟨w3.heap.size, 8, none⟩ (.slice (some ⟨w8.heap.size, 0, none⟩) 1 1)).setCell ⟨w3.heap.size, 9, none⟩ (.int .i64 (X.pos : Int))) = W9 at *
                go_wp2_with fail
                go_roundg j
                case measure => omega
                case rel => exact ⟨by omega, nodeP 22 Y.text [n2] X.pos, some ⟨w8.heap.size, 0, none⟩, 1, _, HP9.out, HF9.out, HY9.out, HX9.out, HB9.out, HO9.out, HQ3.out⟩
              · go_simp
                refine hK.out _ _ (by exact ⟨bcell (p_al w7.drew _) (show w7.drew.cell? _ = _ from HT7.out.cell 3 rfl), bcell (p_al w7.drew _) (show w7.drew.cell? _ = _ from HY7.out.cell 0 rfl)⟩) (fun hHeld => ?_)
                clear hK K
                try simp only [Act.put, List.setIfInBounds_toArray, List.set_cons_zero, List.set_cons_succ]
                refine wpAnyH_ready (rs := [3]) (by kernel_rfl) (by simp) ?_
                refine AllReadyH.cons rfl (fun K hK => ?_) AllReadyH.nil
                go_simp
                refine (HNm.out (w7.drew.alloc (.cells #[.int .i64 n2.kind, .string ⟨n2.text.toArray⟩, .int .i64 n2.val.kind, .int .i64 n2.val.num, .string ⟨n2.val.str.toArray⟩, .slice none 0 0, .slice none 0 0, .bool n2.flag, .slice A2 n2.kids.length c2, .int .i64 n2.spot] 29)) (PSt.below (HP7.out.same (W' := w7.drew) rfl) (p_al w7.drew (.cells #[.int .i64 n2.kind, .string ⟨n2.text.toArray⟩, .int .i64 n2.val.kind, .int .i64 n2.val.num, .string ⟨n2.val.str.toArray⟩, .slice none 0 0, .slice none 0 0, .bool n2.flag, .slice A2 n2.kids.length c2, .int .i64 n2.spot] 29)))).mono ?_
                rintro e w8 ⟨rfl, hP8, hF8⟩
                have HT8 := Lib.hid (Box.fr (Box.below (show Box w6.heap.size _ _ w7.drew from HT7.out) (p_al w7.drew (.cells #[.int .i64 n2.kind, .string ⟨n2.text.toArray⟩, .int .i64 n2.val.kind, .int .i64 n2.val.num, .string ⟨n2.val.str.toArray⟩, .slice none 0 0, .slice none 0 0, .bool n2.flag, .slice A2 n2.kids.length c2, .int .i64 n2.spot] 29))) hF8 (by omega))
                have HB8 := Lib.hid (Box.fr (Box.below (show Box w3.heap.size _ _ w7.drew from HB7.out) (p_al w7.drew (.cells #[.int .i64 n2.kind, .string ⟨n2.text.toArray⟩, .int .i64 n2.val.kind, .int .i64 n2.val.num, .string ⟨n2.val.str.toArray⟩, .slice none 0 0, .slice none 0 0, .bool n2.flag, .slice A2 n2.kids.length c2, .int .i64 n2.spot] 29))) hF8 (by omega))
                have HX8 := Lib.hid (Box.fr (Box.below (show Box (w.heap.size + 1) _ _ w7.drew from HX7.out) (p_al w7.drew (.cells #[.int .i64 n2.kind, .string ⟨n2.text.toArray⟩, .int .i64 n2.val.kind, .int .i64 n2.val.num, .string ⟨n2.val.str.toArray⟩, .slice none 0 0, .slice none 0 0, .bool n2.flag, .slice A2 n2.kids.length c2, .int .i64 n2.spot] 29))) hF8 (by omega))
                have HY8 := Lib.hid (Box.fr (Box.below (show Box w.heap.size _ _ w7.drew from HY7.out) (p_al w7.drew (.cells #[.int .i64 n2.kind, .string ⟨n2.text.toArray⟩, .int .i64 n2.val.kind, .int .i64 n2.val.num, .string ⟨n2.val.str.toArray⟩, .slice none 0 0, .slice none 0 0, .bool n2.flag, .slice A2 n2.kids.length c2, .int .i64 n2.spot] 29))) hF8 (by omega))
                have HP8 := Lib.hid hP8
                have HF8 := Lib.hid ((HF7.out.drew.below (p_al w7.drew (.cells #[.int .i64 n2.kind, .string ⟨n2.text.toArray⟩, .int .i64 n2.val.kind, .int .i64 n2.val.num, .string ⟨n2.val.str.toArray⟩, .slice none 0 0, .slice none 0 0, .bool n2.flag, .slice A2 n2.kids.length c2, .int .i64 n2.spot] 29))).trans hF8)
                have HKR := Lib.hid ((KidRow.lit1 (ok := fun b => w.heap.size + 1 < b ∧ b ≠ w3.heap.size) (w := w7.drew) HO7.out.drew (fun b _ h => h) (by have := HB7.out.lt; show w.heap.size + 1 < w7.heap.size ∧ w7.heap.size ≠ w3.heap.size; omega) _ rfl).fr hF8 (fun b _ h1 h2 => by omega))
                have hz8 : w7.heap.size + 1 ≤ w8.heap.size := by have := hF8.size; simpa using this
                clear hP8 hF8
                refine hK.out _ _ (by exact ⟨HT8.out.cell 3 rfl, HY8.out.cell 0 rfl⟩) (fun hHeld => ?_)
                clear hK K
                try simp only [Act.put, List.setIfInBounds_toArray, List.set_cons_zero, List.set_cons_succ]
                refine wpAnyH_take (i := 4) (v := ?vCc4) rfl (by kernel_rfl) (by kernel_rfl) (by kernel_rfl) (fun _ _ _ h => h) (Or.inl ⟨by rfl, ?yCc4⟩) (by assumption) ?rCc4
                case yCc4 => (intro W hSw; go_simp; try with_reducible rfl)
                try simp only [Act.put, List.setIfInBounds_toArray, List.set_cons_zero, List.set_cons_succ]
                obtain ⟨d0, d1, d2, d3, d4, d5, d6, d7, d8, d9⟩ := ten_cells HB8.out
                refine wpAnyH_ready (rs := [7]) (by kernel_rfl) (by simp) ?_
                refine AllReadyH.cons rfl (fun K hK => ?_) AllReadyH.nil
                go_simp
                refine hK.out _ _ (by exact ⟨HT8.out.cell 3 rfl, HY8.out.cell 0 rfl⟩) (fun hHeld => ?_)
                clear hK K
                try simp only [Act.put, List.setIfInBounds_toArray, List.set_cons_zero, List.set_cons_succ]
                obtain ⟨v0, v1, v2, v3, v4, v5, v6, v7, v8, v9⟩ := ten_melt HB8.out
                refine wpAnyH_ready (rs := [8]) (by kernel_rfl) (by simp) ?_
                refine AllReadyH.cons rfl (fun K hK => ?_) AllReadyH.nil
                go_simp
                have hfr := ten_res w3.heap.size (.int .i64 22) (.string ⟨Y.text.toArray⟩) (.int .i64 0) (.int .i64 0) (.string ⟨#[]⟩) (.slice none 0 0) (.slice none 0 0) (.bool false) (.slice (some ⟨w7.heap.size, 0, none⟩) 1 1) (.int .i64 (X.pos : Int)) w8
                have hbx := ten_set HB8.out (.int .i64 22) (.string ⟨Y.text.toArray⟩) (.int .i64 0) (.int .i64 0) (.string ⟨#[]⟩) (.slice none 0 0) (.slice none 0 0) (.bool false) (.slice (some ⟨w7.heap.size, 0, none⟩) 1 1) (.int .i64 (X.pos : Int))
                refine hK.out _ _ (by exact ⟨hfr.cell (HT8.out.cell 3 rfl) (show ¬ w3.heap.size = w6.heap.size by omega), hfr.cell (HY8.out.cell 0 rfl) (show ¬ w3.heap.size = w.heap.size by omega)⟩) (fun hHeld => ?_)
                clear hK K
                have hPt := HP8.out.ltt
                have HP9 := Lib.hid ((HP8.out).fr hfr (by omega) (by omega))
                have HY9 := Lib.hid ((HY8.out).fr hfr (by omega))
                have HX9 := Lib.hid ((HX8.out).fr hfr (by omega))
                have HF9 := Lib.hid ((HF8.out).past hfr (fun b hb h => by omega))
                have hat9 := Hat.out
                have hyat9 := Hyat.out
                have HK9 := HKR.out.fr hfr (fun b hb h1 h2 => by omega)
                have HO9 := Lib.hid (OwN.of (n := nodeP 22 Y.text [n2] X.pos) (by constructor <;> simp [N.kind]) (by constructor <;> simp [N.spot] <;> omega) (by simp [N.text] <;> omega) ⟨by constructor <;> simp [V.kind, V.zero, N.val], by constructor <;> simp [V.num, V.zero, N.val], by simp [V.str, V.zero, N.val], rfl, rfl⟩ (by simp [N.kids]) HK9)
                have HB9 := Lib.hid hbx
                clear hbx hfr hat9 hyat9 HK9  v0 v1 v2 v3 v4 v5 v6 v7 v8 v9 d0 d1 d2 d3 d4 d5 d6 d7 d8 d9 hf1
                refine wpAnyH_done (by kernel_rfl) ?_ _
                clear hHeld
                generalize ((((((((((w8.setCell ⟨w3.heap.size, 0, none⟩ (.int .i64 22)).setCell ⟨w3.heap.size, 1, none⟩ (.string ⟨Y.text.toArray⟩)).setCell ⟨w3.heap.size, 2, none⟩ (.int .i64 0)).setCell ⟨w3.heap.size, 3, none⟩ (.int .i64 0)).setCell ⟨w3.heap.size, 4, none⟩ (.string ⟨#[]⟩)).setCell ⟨w3.heap.size, 5, none⟩ (.slice none 0 0)).setCell ⟨w3.heap.size, 6, none⟩ (.slice none 0 0)).setCell ⟨w3.heap.size, 7, none⟩ (.bool false)).setCell ⟨w3.heap.size, 8, none⟩ (.slice (some ⟨w7.heap.size, 0, none⟩) 1 1)).setCell ⟨w3.heap.size, 9, none⟩ (.int .i64 (X.pos : Int))) = W9 at *
                go_wp2_with fail
                go_roundg j
                case measure => omega
                case rel => exact ⟨by omega, nodeP 22 Y.text [n2] X.pos, some ⟨w7.heap.size, 0, none⟩, 1, _, HP9.out, HF9.out, HY9.out, HX9.out, HB9.out, HO9.out, HQ3.out⟩
end
end Go.Proofs.YtlnhhffhmeekoaaGreatDoor
