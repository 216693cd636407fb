/- The walk of ParseWithin. -/
import Derived.Test.YtlnhhffhmeekoaaGreatDoorCParseStopsLaw
import Derived.Test.YtlnhhffhmeekoaaGreatDoorCParseSame
set_option linter.unusedVariables false
set_option linter.unusedSimpArgs false
namespace Go.Proofs.YtlnhhffhmeekoaaGreatDoor
open Go.RowKit Go.IntWalk Go.Sort
theorem parseE_ne0 (l : List UInt8) : (∃ p e, parseE l = (zeroN, p, e) ∧ e ≠ 0) ∨ ∃ n, parseE l = (n, 0, 0) := by
  unfold parseE readS
  rcases hA : allS l with ⟨p, e⟩ | T
  · exact .inl ⟨p, e, rfl, allS_ne0 hA⟩
  · simp only []
    cases hr : pExprTop (16 * T.length + 16) T with
    | out => exact .inr ⟨_, rfl⟩
    | bad e p => exact .inl ⟨p, e, rfl, top_ne0 _ _ _ _ hr⟩
    | ok n r => exact .inr ⟨_, rfl⟩
section
variable {w : World}
set_option maxRecDepth 20000 in
set_option maxHeartbeats 400000 in
theorem p_wrapped (L : List UInt8) (hL : L.length ≤ 1048576) (w : World) : Calls Tryz.prog 18 #[.string ⟨L.toArray⟩] w fun e w' => e = .returned (.string ⟨(preB ++ L ++ [59, 32, 125]).toArray⟩) ∧ w' = w := by
  obtain ⟨Q1, e1⟩ : ∃ Q1, Q1 = preB ++ L := ⟨_, rfl⟩
  obtain ⟨Q2, e2⟩ : ∃ Q2, Q2 = Q1 ++ [59, 32, 125] := ⟨_, rfl⟩
  have h1 : Q1.length = 16 + L.length := by rw [e1, List.length_append]; rfl
  have add1 := str_add [102, 110, 32, 102, 40, 41, 32, 123, 32, 114, 101, 116, 117, 114, 110, 32] L Q1 (by simp; omega) e1
  have add2 := str_add Q1 [59, 32, 125] Q2 (by simp; omega) e2
  rw [← e1, ← e2]
  clear e1 e2
  go_enter Tryz.func18, Tryz.ntmps18
  go_wp2
  go_ret
  exact ⟨rfl, rfl⟩
/-- a node's one kid -/
theorem kid0 {ok : Nat → Prop} {W : World} {n x : N} {A B K : Option Addr} {c d e : Nat} (h : NodeRd ok W n A c B d K e) (hk : n.kids = [x]) :
    ∃ g o A' c' B' d' K' e', K = some ⟨g, o, none⟩ ∧ NodeRd ok W x A' c' B' d' K' e' ∧ W.cell? ⟨g, o, none⟩ = some (.int .i64 x.kind) ∧ W.cell? ⟨g, o + 1, none⟩ = some (.string ⟨x.text.toArray⟩) ∧ W.cell? ⟨g, o + 2, none⟩ = some (.int .i64 x.val.kind) ∧ W.cell? ⟨g, o + 3, none⟩ = some (.int .i64 x.val.num) ∧
      W.cell? ⟨g, o + 4, none⟩ = some (.string ⟨x.val.str.toArray⟩) ∧ W.cell? ⟨g, o + 5, none⟩ = some (.slice A' x.val.parts.length c') ∧ W.cell? ⟨g, o + 6, none⟩ = some (.slice B' x.val.keys.length d') ∧ W.cell? ⟨g, o + 7, none⟩ = some (.bool x.flag) ∧ W.cell? ⟨g, o + 8, none⟩ = some (.slice K' x.kids.length e') ∧ W.cell? ⟨g, o + 9, none⟩ = some (.int .i64 x.spot) := by
  have hl := h.kids
  rw [hk] at hl
  obtain ⟨g, o, A', c', B', d', K', e', rfl, _, hn, h0, h1, h2, h3, h4, h5, h6, h7, h8, h9⟩ := hl.elem 0 (by simp)
  simp only [Nat.zero_mul, Nat.add_zero, List.getElem_cons_zero] at hn h0 h1 h2 h3 h4 h5 h6 h7 h8 h9
  exact ⟨g, o, A', c', B', d', K', e', rfl, hn, h0, h1, h2, h3, h4, h5, h6, h7, h8, h9⟩
set_option maxRecDepth 20000 in
set_option maxHeartbeats 2000000 in
theorem law_PW (L : List UInt8) (hL : L.length ≤ 1048576) (hW : LexW w) : Calls Tryz.prog 5 #[.string ⟨L.toArray⟩] w fun e w' => e = .returned (.bool true) ∧ Below w.heap.size w w' := by
  obtain ⟨Q, hQ⟩ : ∃ Q, Q = preB ++ L ++ [59, 32, 125] := ⟨_, rfl⟩
  have hQl : Q.length ≤ 2000000 := by rw [hQ]; simp; omega
  have HI := Lib.hid (law_shownP hW)
  have HE := Lib.hid (fun (W : World) (hW : LexW W) => show Calls Tryz.prog 12 #[.string ⟨L.toArray⟩] W (ReadE (parseE L) W) from x_Expr (w := W) ⟨L.toArray⟩ (by rw [ba_size]; omega) hW)
  have HP := Lib.hid (fun (W : World) (hW : LexW W) => show Calls Tryz.prog 15 #[.string ⟨Q.toArray⟩] W (ReadE (parseP Q) W) from x_Program (w := W) ⟨Q.toArray⟩ (by rw [ba_size]; omega) hW)
  have HQ := Lib.hid (fun W => p_wrapped L hL W)
  have hwi := fun n m p p' => parse_within (s := L) (n := n) (m := m) (p := p) (p' := p')
  have he := parseE_ne0 L
  have hp := parse_ne0 Q
  rw [← hQ] at HQ hwi
  have HW := Lib.hid hW
  clear hW
  clear hQ hQl
  rcases hE : parseE L with ⟨n, p, e⟩
  rcases hP : parseP Q with ⟨m, p', f⟩
  simp only [hE] at HE
  simp only [hP] at HP
  have hwi := hwi n m p p'
  rw [hE] at he hwi
  rw [hP] at hp hwi
  have Hwi := Lib.hid hwi
  have Hen := Lib.hid (show e ≠ 0 → n = zeroN from fun h => by
    rcases he with ⟨_, _, h1, _⟩ | ⟨_, h1⟩
    · injection h1
    · injection h1 with _ h1; injection h1 with _ h1; exact absurd h1 h)
  have Hpn := Lib.hid (show f ≠ 0 → m = zeroN from fun h => by
    rcases hp with ⟨_, _, h1, _⟩ | ⟨_, h1⟩
    · injection h1
    · injection h1 with _ h1; injection h1 with _ h1; exact absurd h1 h)
  clear hE hP he hp hwi hL
  go_enter Tryz.func5, Tryz.ntmps5
  go_wp2_with fail
  refine HI.out.mono ?_
  rintro e' w1 ⟨rfl, hb⟩
  have HW1 := Lib.hid (HW.out.below hb)
  have HB1 := Lib.hid hb
  clear hb
  go_wp2_with fail
  refine (HE.out _ HW1.out).mono ?_
  rintro e' w2 ⟨lv, rfl, hb, hO⟩
  obtain ⟨A, ca, rfl⟩ := hO.lvs
  have hal := p_al w2 (.cells #[.int .i64 n.kind, .string ⟨n.text.toArray⟩, .int .i64 n.val.kind, .int .i64 n.val.num, .string ⟨n.val.str.toArray⟩, .slice none 0 0, .slice none 0 0, .bool n.flag, .slice A n.kids.length ca, .int .i64 n.spot] 29)
  have HW2 := Lib.hid (HW1.out.below (bthen hb hal))
  have HB2 := Lib.hid (bthen HB1.out (bthen hb hal))
  have HN2 := Lib.hid (Box.new w2 #[.int .i64 n.kind, .string ⟨n.text.toArray⟩, .int .i64 n.val.kind, .int .i64 n.val.num, .string ⟨n.val.str.toArray⟩, .slice none 0 0, .slice none 0 0, .bool n.flag, .slice A n.kids.length ca, .int .i64 n.spot] 29)
  have HO2 := Lib.hid (hO.below hal)
  clear hb hO hal HB1 HW1 HW
  go_wp2_with fail
  generalize (w2.alloc (.cells #[.int .i64 n.kind, .string ⟨n.text.toArray⟩, .int .i64 n.val.kind, .int .i64 n.val.num, .string ⟨n.val.str.toArray⟩, .slice none 0 0, .slice none 0 0, .bool n.flag, .slice A n.kids.length ca, .int .i64 n.spot] 29)) = w3 at *
  refine (HQ.out _).mono ?_
  rintro e' w4 ⟨rfl, rfl⟩
  go_wp2_with fail
  refine (HP.out _ HW2.out).mono ?_
  rintro e' w5 ⟨lv, rfl, hb, hO⟩
  obtain ⟨A5, ca5, rfl⟩ := hO.lvs
  have hal := p_al w5 (.cells #[.int .i64 m.kind, .string ⟨m.text.toArray⟩, .int .i64 m.val.kind, .int .i64 m.val.num, .string ⟨m.val.str.toArray⟩, .slice none 0 0, .slice none 0 0, .bool m.flag, .slice A5 m.kids.length ca5, .int .i64 m.spot] 29)
  have HB5 := Lib.hid (bthen HB2.out (bthen hb hal))
  have HN5 := Lib.hid (HN2.out.below (bthen hb hal))
  have HO5 := Lib.hid (HO2.out.below (bthen hb hal))
  have HM5 := Lib.hid (Box.new w5 #[.int .i64 m.kind, .string ⟨m.text.toArray⟩, .int .i64 m.val.kind, .int .i64 m.val.num, .string ⟨m.val.str.toArray⟩, .slice none 0 0, .slice none 0 0, .bool m.flag, .slice A5 m.kids.length ca5, .int .i64 m.spot] 29)
  have HQ5 := Lib.hid (hO.below hal)
  clear hb hO hal HB2 HN2 HO2 HW2 HP HQ HE HI
  go_upto_region 4 with fail
  generalize (w5.alloc (.cells #[.int .i64 m.kind, .string ⟨m.text.toArray⟩, .int .i64 m.val.kind, .int .i64 m.val.num, .string ⟨m.val.str.toArray⟩, .slice none 0 0, .slice none 0 0, .bool m.flag, .slice A5 m.kids.length ca5, .int .i64 m.spot] 29)) = w6 at *
  have n8 := HN5.out.cell 8 rfl
  have m8 := HM5.out.cell 8 rfl
  by_cases hf : f = 0
  · subst hf
    by_cases he : e = 0
    · subst he
      obtain ⟨x, hm, hx⟩ := Hwi.out rfl rfl
      subst hm
      clear n8 m8
      obtain ⟨Aq, cq, Bq, dq0, K1, e1, hv, h1⟩ := (HQ5.out.rd).form
      injection hv with hv
      have hv8 := congrArg (fun a : Array Value => a[8]?) hv
      simp only [cellsN, List.size_toArray, List.getElem?_toArray] at hv8
      injection hv8 with hv8
      injection hv8 with hk1 _ hk2
      subst hk1 hk2
      obtain ⟨g1, o1, _, _, _, _, K2, e2, hK1, hF, _, _, _, _, _, _, _, _, f8, _⟩ := kid0 h1 rfl
      obtain ⟨g2, o2, _, _, _, _, K3, e3, hK2, hB, _, _, _, _, _, _, _, _, b8, _⟩ := kid0 hF rfl
      obtain ⟨g3, o3, _, _, _, _, K4, e4, hK3, hR, _, _, _, _, _, _, _, _, r8, _⟩ := kid0 hB rfl
      obtain ⟨g4, o4, Ax, cx, Bx, dx, Kx, ex, hK4, hX, x0, x1, x2, x3, x4, x5, x6, x7, x8, x9⟩ := kid0 hR rfl
      subst hK1 hK2 hK3 hK4
      have m8 : w6.cell? ⟨w5.heap.size, 8, none⟩ = some (.slice (some ⟨g1, o1, none⟩) 1 ca5) := HM5.out.cell 8 rfl
      have f8 : w6.cell? ⟨g1, o1 + 8, none⟩ = some (.slice (some ⟨g2, o2, none⟩) 1 e2) := f8
      have b8 : w6.cell? ⟨g2, o2 + 8, none⟩ = some (.slice (some ⟨g3, o3, none⟩) 1 e3) := b8
      have r8 : w6.cell? ⟨g3, o3 + 8, none⟩ = some (.slice (some ⟨g4, o4, none⟩) 1 e4) := r8
      obtain ⟨n0, n1, n2, n3, n4, n5, n6, n7, n8, n9⟩ := q_ten HN5.out
      have HXr := Lib.hid hX.rd
      have cA := fun (d1 : Nat) (os : Array Obj) => Calls.regrown_of (q_same false (SizeOf.sizeOf n) n x (valO n (.slice A n.kids.length ca)) (valN x Ax cx Bx dx Kx ex) _ _ (grow (redrawn w6 d1) os) ((HO5.out.rd).below (below_regrown _ d1 os)) (HXr.out.below (below_regrown _ d1 os)) (Nat.le_refl _) hx (fun h => by cases h))
      have ym := cell_regrown m8
      have yf := cell_regrown f8
      have yb := cell_regrown b8
      have yr := cell_regrown r8
      have yn0 := cell_regrown n0
      have yn1 := cell_regrown n1
      have yn2 := cell_regrown n2
      have yn3 := cell_regrown n3
      have yn4 := cell_regrown n4
      have yn5 := cell_regrown n5
      have yn6 := cell_regrown n6
      have yn7 := cell_regrown n7
      have yn8 := cell_regrown n8
      have yn9 := cell_regrown n9
      have yx0 := cell_regrown x0
      have yx1 := cell_regrown x1
      have yx2 := cell_regrown x2
      have yx3 := cell_regrown x3
      have yx4 := cell_regrown x4
      have yx5 := cell_regrown x5
      have yx6 := cell_regrown x6
      have yx7 := cell_regrown x7
      have yx8 := cell_regrown x8
      have yx9 := cell_regrown x9
      clear h1 hF hB hR hX hv Hen Hpn Hwi
      go_upto_region 8 with fail
      clear m8 f8 b8 r8 n0 n1 n2 n3 n4 n5 n6 n7 n8 n9 x0 x1 x2 x3 x4 x5 x6 x7 x8 x9
      refine wp_region_quiet_below (by kernel_rfl) (by kernel_rfl) ?_
      repeat (quiet_step (with_reducible exact cA _ _))
      refine wpQuiet_nil ?_
      intro _ hw'
      obtain ⟨⟨dq, osq⟩, hw''⟩ := hw'
      subst hw''
      clear cA
      go_wp2_with fail
      go_ret
      exact ⟨rfl, bthen HB5.out (below_regrown _ dq osq)⟩
    · have hz := Hen.out he
      subst hz
      have hnz : ((e : Int) != 0) = true := by simp; omega
      have hnz2 : ((e : Int) == 0) = false := by simp; omega
      clear Hen Hpn Hwi
      go_wp2_with fail
      go_ret
      exact ⟨rfl, HB5.out⟩
  · have hz := Hpn.out hf
    subst hz
    have fnz : ((f : Int) != 0) = true := by simp; omega
    have fnz2 : ((f : Int) == 0) = false := by simp; omega
    by_cases he : e = 0
    · subst he
      clear Hen Hpn Hwi
      go_wp2_with fail
      go_ret
      exact ⟨rfl, HB5.out⟩
    · have hz := Hen.out he
      subst hz
      have hnz : ((e : Int) != 0) = true := by simp; omega
      have hnz2 : ((e : Int) == 0) = false := by simp; omega
      clear Hen Hpn Hwi
      go_wp2_with fail
      go_ret
      exact ⟨rfl, HB5.out⟩
theorem law_ParseWithin (s : ByteArray) (w : World) (hs : s.size ≤ 1048576) (hW : LexW w) : Calls Tryz.prog 5 #[.string s] w fun e w' => e = .returned (.bool true) ∧ Below w.heap.size w w' := by
  obtain ⟨L, rfl⟩ : ∃ L : List UInt8, s = ⟨L.toArray⟩ := ⟨s.data.toList, ByteArray.ext (by simp)⟩
  rw [ba_size] at hs
  exact law_PW L hs hW
end
end Go.Proofs.YtlnhhffhmeekoaaGreatDoor
