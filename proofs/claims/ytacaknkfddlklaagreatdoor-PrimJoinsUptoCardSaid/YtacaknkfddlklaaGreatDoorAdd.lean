/- Contract of prim.add. Printed by gen_add.py. -/
import Derived.Test.YtacaknkfddlklaaGreatDoorSized
import Derived.Test.YtacaknkfddlklaaGreatDoorElems
import Derived.Test.YtacaknkfddlklaaGreatDoorAddInts
set_option linter.unusedVariables false
set_option linter.unusedSimpArgs false
namespace Go.Proofs.YtacaknkfddlklaaGreatDoor
open Go.RowKit Go.IntWalk

def sizedS (X : V) : V × Int := if rightB X then (X, 0) else (V.zero, 5)
theorem sized_ans {w : World} {X : V} {e : Ending} {w' : World} (h : AnsPost w (if rightB X then X else V.zero) (if rightB X then 0 else 5) e w') : AnsPost w (sizedS X).1 (sizedS X).2 e w' := by
  unfold sizedS
  cases hr : rightB X <;> (rw [hr] at h; simpa using h)
/-- what add makes -/
def addS (X Y : V) : V × Int :=
  if X.kind = 2 ∧ Y.kind = 2 then (.mk 2 (wrap64 (X.num + Y.num)) [] [] [], 0)
  else if X.kind = 3 ∧ Y.kind = 3 then sizedS (.mk X.kind X.num (X.str ++ Y.str) X.parts X.keys)
  else if X.kind = 4 ∧ Y.kind = 4 then sizedS (.mk 4 0 [] (X.parts ++ Y.parts) [])
  else (V.zero, 3)
theorem Five.get {w : World} {g : Nat} {a0 a1 a2 a3 a4 : Value} (h : Five w g 0 (.agg #[a0, a1, a2, a3, a4])) : w.cell? ⟨g, 0, none⟩ = some a0 ∧ w.cell? ⟨g, 1, none⟩ = some a1 ∧ w.cell? ⟨g, 2, none⟩ = some a2 ∧ w.cell? ⟨g, 3, none⟩ = some a3 ∧ w.cell? ⟨g, 4, none⟩ = some a4 := by
  obtain ⟨x0, x1, x2, x3, x4, hx, e0, e1, e2, e3, e4⟩ := h
  injection hx with hx
  simp only [Array.mk.injEq, List.cons.injEq, and_true] at hx
  obtain ⟨rfl, rfl, rfl, rfl, rfl⟩ := hx
  exact ⟨e0, e1, e2, e3, e4⟩
/-- within add: behind its first line -/
structure AddSt (w : World) (x0 x1 x2 x3 x4 vX vY : Value) (ga gb : Nat) (wx : World) : Prop where
  st : DoSt w x0 x1 x2 x3 x4 wx
  fX : Five wx ga 0 vX
  fY : Five wx gb 0 vY
  melt : ∀ i, wx.frozen? ⟨ga, i, none⟩ = false
  ne : ga ≠ gb
  lo : w.heap.size + 1 < ga
theorem Five.new (w : World) (c0 c1 c2 c3 c4 : Value) (t : TypeId) {g : Nat} (hg : g = w.heap.size) : Five (w.alloc (.cells #[c0, c1, c2, c3, c4] t)) g 0 (.agg #[c0, c1, c2, c3, c4]) := by
  subst hg
  exact ⟨_, _, _, _, _, rfl, World.cell?_alloc_at _ _ _ _ rfl, World.cell?_alloc_at _ _ _ _ rfl, World.cell?_alloc_at _ _ _ _ rfl, World.cell?_alloc_at _ _ _ _ rfl, World.cell?_alloc_at _ _ _ _ rfl⟩
theorem addSt_1 (w : World) (x0 x1 x2 x3 x4 a0 a1 a2 a3 a4 b0 b1 b2 b3 b4 : Value) : AddSt w x0 x1 x2 x3 x4 (.agg #[a0, a1, a2, a3, a4]) (.agg #[b0, b1, b2, b3, b4]) (w.heap.size + 1 + 1) (w.heap.size + 1 + 1 + 1) ((((w.alloc (.cells #[x0, x1, x2, x3, x4] 25)).alloc (cellsV 0 0)).alloc (.cells #[a0, a1, a2, a3, a4] 25)).alloc (.cells #[b0, b1, b2, b3, b4] 25)).drew :=
  have nb := fun (W : World) (O : Obj) => (Below.refl W.heap.size W).alloc (Nat.le_refl _) O
  ⟨(((DoSt.made w x0 x1 x2 x3 x4).below (nb _ _)).below (nb _ _)).below (Below.refl _ _).drew, (((Five.new _ _ _ _ _ _ _ (by simp)).below (nb _ _)).below (Below.refl _ _).drew), (Five.new _ _ _ _ _ _ _ (by simp)).below (Below.refl _ _).drew,
    frozen_below (Below.refl _ _).drew (by simp) (frozen_below (nb _ _) (by simp) (fun i => by rw [show w.heap.size + 1 + 1 = ((w.alloc (.cells #[x0, x1, x2, x3, x4] 25)).alloc (cellsV 0 0)).heap.size by simp]; exact World.frozen?_alloc_at _ _ _ _ rfl)), by omega, by omega⟩
theorem addSt_2 (w : World) (x0 x1 x2 x3 x4 a0 a1 a2 a3 a4 b0 b1 b2 b3 b4 : Value) : AddSt w x0 x1 x2 x3 x4 (.agg #[a0, a1, a2, a3, a4]) (.agg #[b0, b1, b2, b3, b4]) (w.heap.size + 1 + 1 + 1) (w.heap.size + 1 + 1) ((((w.alloc (.cells #[x0, x1, x2, x3, x4] 25)).alloc (cellsV 0 0)).alloc (.cells #[b0, b1, b2, b3, b4] 25)).alloc (.cells #[a0, a1, a2, a3, a4] 25)).drew :=
  have nb := fun (W : World) (O : Obj) => (Below.refl W.heap.size W).alloc (Nat.le_refl _) O
  ⟨(((DoSt.made w x0 x1 x2 x3 x4).below (nb _ _)).below (nb _ _)).below (Below.refl _ _).drew, (Five.new _ _ _ _ _ _ _ (by simp)).below (Below.refl _ _).drew, (((Five.new _ _ _ _ _ _ _ (by simp)).below (nb _ _)).below (Below.refl _ _).drew),
    frozen_below (Below.refl _ _).drew (by simp) (fun i => by rw [show w.heap.size + 1 + 1 + 1 = (((w.alloc (.cells #[x0, x1, x2, x3, x4] 25)).alloc (cellsV 0 0)).alloc (.cells #[b0, b1, b2, b3, b4] 25)).heap.size by simp]; exact World.frozen?_alloc_at _ _ _ _ rfl), by omega, by omega⟩
theorem one_b (w : World) (X : Obj) : Below w.heap.size w (w.alloc X) := (Below.refl _ _).alloc (Nat.le_refl _) X
theorem RdV.restr {ok : Nat → Prop} {w : World} {X : V} {A B : Option Addr} {c d : Nat} {s : List UInt8} (h : RdV ok w (valV X A c B d) X) (hs : s.length ≤ 16777216) :
    RdV ok w (.agg #[.int .i64 X.kind, .int .i64 X.num, .string ⟨s.toArray⟩, .slice A X.parts.length c, .slice B X.keys.length d]) (.mk X.kind X.num s X.parts X.keys) := by
  obtain ⟨h0, h1, _, lv, kv, hv, h3, h4, h5⟩ := h.open
  injection hv with hv
  simp only [Array.mk.injEq, List.cons.injEq, and_true, true_and] at hv
  obtain ⟨rfl, rfl⟩ := hv
  exact RdV.close h0 h1 hs h3 h4 h5
theorem prim_sized' (X R : V) (t : Int) (hR : sizedS X = (R, t)) (v : Value) (ok : Nat → Prop) (w : World) (hv : RdV ok w v X) :
    Calls Tryz.prog 66 #[v] w (AnsPost w R t) :=
  (prim_sized X v ok w hv).mono fun e w' h => by
    have := sized_ans h
    rwa [hR] at this
theorem below_grown {a w1 w2 : World} {row : Option Nat} {N : Nat} (hb : Below N a w1) (hN : N = a.heap.size) (g : w1.grownBy w2 row) (hr : ∀ k, row = some k → N ≤ k) : Below N a w2 :=
  ⟨g.os.trans hb.os, g.tape.trans hb.tape, g.output.trans hb.output, Nat.le_trans hb.size g.size, fun k hk => (g.block k (Nat.lt_of_lt_of_le (hN ▸ hk) hb.size) (fun e => by have := hr k e.symm; omega)).trans (hb.block k hk)⟩
theorem cells_to {w W : World} {A : Option Addr} {n : Nat} {news : List Value} (h : 0 < n → ∃ g off, A = some ⟨g, off, none⟩ ∧ ∀ j u, news[j]? = some u → w.cell? ⟨g, off + 0 * 5 + j, none⟩ = some u) (hb : Below w.heap.size w W) : 0 < n → ∃ g off, A = some ⟨g, off, none⟩ ∧ ∀ j u, news[j]? = some u → W.cell? ⟨g, off + j, none⟩ = some u := by
  intro h0
  obtain ⟨g, off, hA, hc⟩ := h h0
  exact ⟨g, off, hA, fun j u hj => bcell hb (by simpa using hc j u hj)⟩
theorem arr_rd {e : TypeId} {ok ok1 : Nat → Prop} {w2 : World} {A3 : Option Addr} {c3 : Nat} {X Y : V} {nX nY : List Value} (h : OwnR e 5 ok w2 (.slice A3 (0 + X.parts.length + Y.parts.length) c3) (0 + X.parts.length + Y.parts.length) ([] ++ nX ++ nY)) (hX : Elems ok1 w2 nX X.parts) (hY : Elems ok1 w2 nY Y.parts) (hl : X.parts.length + Y.parts.length ≤ 16777216) :
    RdV (fun _ => True) w2 (.agg #[.int .i64 4, .int .i64 0, .string ⟨#[]⟩, .slice A3 (X.parts.length + Y.parts.length) c3, .slice none 0 0]) (.mk 4 0 [] (X.parts ++ Y.parts) []) := by
  rw [Nat.zero_add, List.nil_append] at h
  have hlen : (X.parts ++ Y.parts).length = X.parts.length + Y.parts.length := List.length_append
  have ho : OwnR e 5 (fun _ => True) w2 (.slice A3 (X.parts.length + Y.parts.length) c3) (X.parts ++ Y.parts).length (nX ++ nY) := by rw [hlen]; exact h.mono fun _ _ _ => trivial
  exact RdV.close (s := []) (i64ok_small (by decide) (by decide)) (i64ok_small (by decide) (by decide)) (by simp) (hlen ▸ h.slForm hl) (RdVs.own ho ((hX.append hY).imp fun _ _ => trivial)) (RdK.nil _ _ _ _ (by omega))
theorem six_allocs (w : World) (X Y Z U T S : Obj) : Below w.heap.size w ((((((w.alloc X).alloc Y).alloc Z).alloc U).drew.alloc T).alloc S) := (five_allocs w X Y Z U T).alloc (by simp; omega) S
theorem seven_allocs (w : World) (X Y Z U T S R : Obj) : Below w.heap.size w (((((((w.alloc X).alloc Y).alloc Z).alloc U).drew.alloc T).alloc S).alloc R) := (six_allocs w X Y Z U T S).alloc (by simp; omega) R
set_option maxRecDepth 20000 in
set_option maxHeartbeats 2000000 in
theorem prim_add_not (X Y : V) (n2 : ¬ (X.kind = 2 ∧ Y.kind = 2)) (n3 : ¬ (X.kind = 3 ∧ Y.kind = 3)) (n4 : ¬ (X.kind = 4 ∧ Y.kind = 4)) (x0 x1 x2 x3 x4 : Value) (A : Option Addr) (c : Nat) (ok : Nat → Prop) (w : World) (hls : RdVs ok w (.slice A 2 c) 0 [X, Y]) :
    Calls Tryz.prog 46 #[.agg #[x0, x1, x2, x3, x4], .slice A 2 c] w (PlainPost w 0 0 3) := by
  have K2 := Lib.hid (show (decide (X.kind = 2) && decide (Y.kind = 2)) = false by rw [Bool.eq_false_iff]; intro h; simp at h; exact n2 h)
  have K3 := Lib.hid (show (decide (X.kind = 3) && decide (Y.kind = 3)) = false by rw [Bool.eq_false_iff]; intro h; simp at h; exact n3 h)
  have K4 := Lib.hid (show (decide (X.kind = 4) && decide (Y.kind = 4)) = false by rw [Bool.eq_false_iff]; intro h; simp at h; exact n4 h)
  clear n2 n3 n4
  have Hls := Lib.hid hls
  obtain ⟨g, off, A1, c1, B1, d1, rfl, hog, hr0, e0, e1, e2, e3, e4⟩ := hls.elem 0 (by simp)
  obtain ⟨g', off', A2, c2, B2, d2, hgg, hog', hr1, f0, f1, f2, f3, f4⟩ := hls.elem 1 (by simp)
  injection hgg with hgg
  injection hgg with hg1 hg2
  subst hg1 hg2
  simp only [List.getElem_cons_zero, List.getElem_cons_succ, Nat.zero_mul, Nat.one_mul, Nat.add_zero] at e0 e1 e2 e3 e4 f0 f1 f2 f3 f4 hr0 hr1
  have E0 := fun X Y Z U => bcell (four_alloc w X Y Z U) e0
  have E1 := fun X Y Z U => bcell (four_alloc w X Y Z U) e1
  have E2 := fun X Y Z U => bcell (four_alloc w X Y Z U) e2
  have E3 := fun X Y Z U => bcell (four_alloc w X Y Z U) e3
  have E4 := fun X Y Z U => bcell (four_alloc w X Y Z U) e4
  have F0 := fun X Y Z U => bcell (four_alloc w X Y Z U) f0
  have F1 := fun X Y Z U => bcell (four_alloc w X Y Z U) f1
  have F2 := fun X Y Z U => bcell (four_alloc w X Y Z U) f2
  have F3 := fun X Y Z U => bcell (four_alloc w X Y Z U) f3
  have F4 := fun X Y Z U => bcell (four_alloc w X Y Z U) f4
  have P0 := fun X Y Z => bcell (three_alloc w X Y Z) e0
  have P1 := fun X Y Z => bcell (three_alloc w X Y Z) e1
  have P2 := fun X Y Z => bcell (three_alloc w X Y Z) e2
  have P3 := fun X Y Z => bcell (three_alloc w X Y Z) e3
  have P4 := fun X Y Z => bcell (three_alloc w X Y Z) e4
  have Q0 := fun X Y Z => bcell (three_alloc w X Y Z) f0
  have Q1 := fun X Y Z => bcell (three_alloc w X Y Z) f1
  have Q2 := fun X Y Z => bcell (three_alloc w X Y Z) f2
  have Q3 := fun X Y Z => bcell (three_alloc w X Y Z) f3
  have Q4 := fun X Y Z => bcell (three_alloc w X Y Z) f4
  have D0 := fun X Y => bcell (two_alloc w X Y) e0
  have D1 := fun X Y => bcell (two_alloc w X Y) e1
  have D2 := fun X Y => bcell (two_alloc w X Y) e2
  have D3 := fun X Y => bcell (two_alloc w X Y) e3
  have D4 := fun X Y => bcell (two_alloc w X Y) e4
  have G0 := fun X Y => bcell (two_alloc w X Y) f0
  have G1 := fun X Y => bcell (two_alloc w X Y) f1
  have G2 := fun X Y => bcell (two_alloc w X Y) f2
  have G3 := fun X Y => bcell (two_alloc w X Y) f3
  have G4 := fun X Y => bcell (two_alloc w X Y) f4
  have Hr0 := Lib.hid hr0
  have Hr1 := Lib.hid hr1
  have HS := Lib.hid (DoSt.made w x0 x1 x2 x3 x4)
  clear hls hog hog' hr0 hr1 e0 e1 e2 e3 e4 f0 f1 f2 f3 f4
  go_enter Tryz.func46, Tryz.ntmps46
  go_wp2_with fail
  go_upto_region 1 with fail
  go_cut [6, 7] (fun t6 t7 wx => ∃ ga gb, t6 = .pointer (some ⟨ga, 0, none⟩) ∧ t7 = .pointer (some ⟨gb, 0, none⟩) ∧ AddSt w x0 x1 x2 x3 x4 (valV X A1 c1 B1 d1) (valV Y A2 c2 B2 d2) ga gb wx)
  case first =>
    go_region
    all_goals go_wp2_with fail
    all_goals go_meet
    all_goals first
    | with_reducible exact ⟨_, _, rfl, rfl, addSt_1 _ _ _ _ _ _ _ _ _ _ _ _ _ _ _ _⟩
    | with_reducible exact ⟨_, _, rfl, rfl, addSt_2 _ _ _ _ _ _ _ _ _ _ _ _ _ _ _ _⟩
  case rest =>
    obtain ⟨ga, gb, rfl, rfl, hst⟩ := hcut
    have HA := Lib.hid hst
    have HW := Lib.hid hst.st.2.2.2.2.2.2.2.2.2.2.2
    clear hst E0 E1 E2 E3 E4 F0 F1 F2 F3 F4 P0 P1 P2 P3 P4 Q0 Q1 Q2 Q3 Q4 D0 D1 D2 D3 D4 G0 G1 G2 G3 G4 HS
    go_wp2_with fail
    have hk := fun (W : World) (p : Nat) hb h1 h2 => prim_kinds X Y 2 2 (some ⟨g, off, none⟩) c 2 p ok W (Hls.out.below hb) h1 h2
    refine (hk _ _ (bthen HW.out (one_b _ _)) (World.cell?_alloc_at _ _ _ _ (by simp)) (World.cell?_alloc_at _ _ _ _ (by simp))).mono ?_
    clear hk
    rw [K2.out]
    rintro e w1 ⟨rfl, rfl⟩
    go_wp2_with fail
    have hk := fun (W : World) (p : Nat) hb h1 h2 => prim_kinds X Y 3 3 (some ⟨g, off, none⟩) c 2 p ok W (Hls.out.below hb) h1 h2
    refine (hk _ _ (bthen HW.out (two_alloc _ _ _)) (World.cell?_alloc_at _ _ _ _ (by simp)) (World.cell?_alloc_at _ _ _ _ (by simp))).mono ?_
    clear hk
    rw [K3.out]
    rintro e w1 ⟨rfl, rfl⟩
    go_wp2_with fail
    have hk := fun (W : World) (p : Nat) hb h1 h2 => prim_kinds X Y 4 4 (some ⟨g, off, none⟩) c 2 p ok W (Hls.out.below hb) h1 h2
    refine (hk _ _ (bthen HW.out (three_alloc _ _ _ _)) (World.cell?_alloc_at _ _ _ _ (by simp)) (World.cell?_alloc_at _ _ _ _ (by simp))).mono ?_
    clear hk
    rw [K4.out]
    rintro e w1 ⟨rfl, rfl⟩
    go_wp2_with fail
    refine (prim_trapped _ _).mono ?_
    rintro e w1 ⟨rfl, rfl⟩
    obtain ⟨h0, h1, h2, h3, h4, r0, r1, r2, r3, r4, hf, hw⟩ := HA.out.st
    have R0 := fun X Y Z U => bcell (four_alloc wc X Y Z U) r0
    have R1 := fun X Y Z U => bcell (four_alloc wc X Y Z U) r1
    have R2 := fun X Y Z U => bcell (four_alloc wc X Y Z U) r2
    have R3 := fun X Y Z U => bcell (four_alloc wc X Y Z U) r3
    have R4 := fun X Y Z U => bcell (four_alloc wc X Y Z U) r4
    have hfa := fun X Y Z U => frozen_below (four_alloc wc X Y Z U) (lt_of_cell r0) hf
    clear hw hf h0 h1 h2 h3 h4
    go_wp2
    refine bodyPost_ret (v := .tuple #[aggV 0 0, .int .i64 3]) ?_ rfl ⟨rfl, five_sets (bthen HW.out (four_alloc _ _ _ _ _)) (Nat.le_succ _) _ _ _ _ _ _ _ _ _ _⟩
    rw [results_cell_tmp rfl]
    go_simp
set_option maxRecDepth 20000 in
set_option maxHeartbeats 2000000 in
theorem prim_add_str (X Y : V) (hX : X.kind = 3) (hY : Y.kind = 3) (hs1 : X.str.length ≤ 8388608) (hs2 : Y.str.length ≤ 8388608) (R : V) (t : Int) (hR : sizedS (.mk X.kind X.num (X.str ++ Y.str) X.parts X.keys) = (R, t)) (x0 x1 x2 x3 x4 : Value) (A : Option Addr) (c : Nat) (ok : Nat → Prop) (w : World) (hls : RdVs ok w (.slice A 2 c) 0 [X, Y]) :
    Calls Tryz.prog 46 #[.agg #[x0, x1, x2, x3, x4], .slice A 2 c] w (AnsPost w R t) := by
  have K2 := Lib.hid (show (decide (X.kind = 2) && decide (Y.kind = 2)) = false by simp [hX])
  have K3 := Lib.hid (show (decide (X.kind = 3) && decide (Y.kind = 3)) = true by simp [hX, hY])
  clear hX hY
  have HR := Lib.hid hR
  have hsl : (X.str ++ Y.str).length ≤ 16777216 := by rw [List.length_append]; omega
  have Hsl := Lib.hid hsl
  clear hR hsl
  have hadd := fun W => run_string_add_lists (P := Tryz.prog) W X.str Y.str (by omega) (by omega)
  have Hls := Lib.hid hls
  obtain ⟨g, off, A1, c1, B1, d1, rfl, hog, hr0, e0, e1, e2, e3, e4⟩ := hls.elem 0 (by simp)
  obtain ⟨g', off', A2, c2, B2, d2, hgg, hog', hr1, f0, f1, f2, f3, f4⟩ := hls.elem 1 (by simp)
  injection hgg with hgg
  injection hgg with hg1 hg2
  subst hg1 hg2
  simp only [List.getElem_cons_zero, List.getElem_cons_succ, Nat.zero_mul, Nat.one_mul, Nat.add_zero] at e0 e1 e2 e3 e4 f0 f1 f2 f3 f4 hr0 hr1
  have E0 := fun X Y Z U => bcell (four_alloc w X Y Z U) e0
  have E1 := fun X Y Z U => bcell (four_alloc w X Y Z U) e1
  have E2 := fun X Y Z U => bcell (four_alloc w X Y Z U) e2
  have E3 := fun X Y Z U => bcell (four_alloc w X Y Z U) e3
  have E4 := fun X Y Z U => bcell (four_alloc w X Y Z U) e4
  have F0 := fun X Y Z U => bcell (four_alloc w X Y Z U) f0
  have F1 := fun X Y Z U => bcell (four_alloc w X Y Z U) f1
  have F2 := fun X Y Z U => bcell (four_alloc w X Y Z U) f2
  have F3 := fun X Y Z U => bcell (four_alloc w X Y Z U) f3
  have F4 := fun X Y Z U => bcell (four_alloc w X Y Z U) f4
  have P0 := fun X Y Z => bcell (three_alloc w X Y Z) e0
  have P1 := fun X Y Z => bcell (three_alloc w X Y Z) e1
  have P2 := fun X Y Z => bcell (three_alloc w X Y Z) e2
  have P3 := fun X Y Z => bcell (three_alloc w X Y Z) e3
  have P4 := fun X Y Z => bcell (three_alloc w X Y Z) e4
  have Q0 := fun X Y Z => bcell (three_alloc w X Y Z) f0
  have Q1 := fun X Y Z => bcell (three_alloc w X Y Z) f1
  have Q2 := fun X Y Z => bcell (three_alloc w X Y Z) f2
  have Q3 := fun X Y Z => bcell (three_alloc w X Y Z) f3
  have Q4 := fun X Y Z => bcell (three_alloc w X Y Z) f4
  have D0 := fun X Y => bcell (two_alloc w X Y) e0
  have D1 := fun X Y => bcell (two_alloc w X Y) e1
  have D2 := fun X Y => bcell (two_alloc w X Y) e2
  have D3 := fun X Y => bcell (two_alloc w X Y) e3
  have D4 := fun X Y => bcell (two_alloc w X Y) e4
  have G0 := fun X Y => bcell (two_alloc w X Y) f0
  have G1 := fun X Y => bcell (two_alloc w X Y) f1
  have G2 := fun X Y => bcell (two_alloc w X Y) f2
  have G3 := fun X Y => bcell (two_alloc w X Y) f3
  have G4 := fun X Y => bcell (two_alloc w X Y) f4
  have Hr0 := Lib.hid hr0
  have Hr1 := Lib.hid hr1
  have HS := Lib.hid (DoSt.made w x0 x1 x2 x3 x4)
  clear hls hog hog' hr0 hr1 e0 e1 e2 e3 e4 f0 f1 f2 f3 f4
  go_enter Tryz.func46, Tryz.ntmps46
  go_wp2_with fail
  go_upto_region 1 with fail
  go_cut [6, 7] (fun t6 t7 wx => ∃ ga gb, t6 = .pointer (some ⟨ga, 0, none⟩) ∧ t7 = .pointer (some ⟨gb, 0, none⟩) ∧ AddSt w x0 x1 x2 x3 x4 (valV X A1 c1 B1 d1) (valV Y A2 c2 B2 d2) ga gb wx)
  case first =>
    go_region
    all_goals go_wp2_with fail
    all_goals go_meet
    all_goals first
    | with_reducible exact ⟨_, _, rfl, rfl, addSt_1 _ _ _ _ _ _ _ _ _ _ _ _ _ _ _ _⟩
    | with_reducible exact ⟨_, _, rfl, rfl, addSt_2 _ _ _ _ _ _ _ _ _ _ _ _ _ _ _ _⟩
  case rest =>
    obtain ⟨ga, gb, rfl, rfl, hst⟩ := hcut
    have HA := Lib.hid hst
    have HW := Lib.hid hst.st.2.2.2.2.2.2.2.2.2.2.2
    clear hst E0 E1 E2 E3 E4 F0 F1 F2 F3 F4 P0 P1 P2 P3 P4 Q0 Q1 Q2 Q3 Q4 D0 D1 D2 D3 D4 G0 G1 G2 G3 G4 HS
    go_wp2_with fail
    have hk := fun (W : World) (p : Nat) hb h1 h2 => prim_kinds X Y 2 2 (some ⟨g, off, none⟩) c 2 p ok W (Hls.out.below hb) h1 h2
    refine (hk _ _ (bthen HW.out (one_b _ _)) (World.cell?_alloc_at _ _ _ _ (by simp)) (World.cell?_alloc_at _ _ _ _ (by simp))).mono ?_
    clear hk
    rw [K2.out]
    rintro e w1 ⟨rfl, rfl⟩
    go_wp2_with fail
    have hk := fun (W : World) (p : Nat) hb h1 h2 => prim_kinds X Y 3 3 (some ⟨g, off, none⟩) c 2 p ok W (Hls.out.below hb) h1 h2
    refine (hk _ _ (bthen HW.out (two_alloc _ _ _)) (World.cell?_alloc_at _ _ _ _ (by simp)) (World.cell?_alloc_at _ _ _ _ (by simp))).mono ?_
    clear hk
    rw [K3.out]
    rintro e w1 ⟨rfl, rfl⟩
    have hX5 := HA.out.fX.get
    have hY5 := HA.out.fY.get
    have X0 := fun X Y => bcell (two_alloc wc X Y) hX5.1
    have X1 := fun X Y => bcell (two_alloc wc X Y) hX5.2.1
    have X2 := fun X Y => bcell (two_alloc wc X Y) hX5.2.2.1
    have X3 := fun X Y => bcell (two_alloc wc X Y) hX5.2.2.2.1
    have X4 := fun X Y => bcell (two_alloc wc X Y) hX5.2.2.2.2
    have Y2 := fun X Y => bcell (two_alloc wc X Y) hY5.2.2.1
    have hfa := fun X Y => frozen_below (two_alloc wc X Y) (lt_of_cell hX5.1) HA.out.melt
    clear hX5 hY5
    go_wp2_with fail
    have HBW := Lib.hid ((bthen HW.out (two_alloc wc (.cells #[.int .i64 2, .int .i64 2] 3) (.cells #[.int .i64 3, .int .i64 3] 3))).setCell (p := ⟨ga, 2, none⟩) (Nat.le_of_lt (Nat.lt_trans (Nat.lt_succ_self _) HA.out.lo)) (.string ⟨(X.str ++ Y.str).toArray⟩))
    have HSW := Lib.hid ((HA.out.st.below (two_alloc wc (.cells #[.int .i64 2, .int .i64 2] 3) (.cells #[.int .i64 3, .int .i64 3] 3))).fr ((Fr.refl (fun b => b = ga) _).setCell (p := ⟨ga, 2, none⟩) rfl (.string ⟨(X.str ++ Y.str).toArray⟩)) (fun b hb e => by have := HA.out.lo; omega))
    clear X0 X1 X2 X3 X4 Y2 hfa
    refine (prim_sized' _ R t HR.out _ ok _ ((Hr0.out.restr Hsl.out).below HBW.out)).mono ?_
    rintro e w5 ⟨v', rfl, hv', hb⟩
    obtain ⟨A5, c5, B5, d5, rfl, _⟩ := hv'.form
    have HV := Lib.hid hv'
    have HS5 := Lib.hid (HSW.out.below hb)
    have Hlt := Lib.hid (lt_of_cell HSW.out.2.2.2.2.2.1)
    clear hv' hb
    obtain ⟨h0, h1, h2, h3, h4, r0, r1, r2, r3, r4, hf, hw⟩ := HS5.out
    have hf0 := hf 0
    have hf1 := hf 1
    have hf2 := hf 2
    have hf3 := hf 3
    have hf4 := hf 4
    have Hw := Lib.hid hw
    clear hw hf
    go_wp2_with fail
    refine bodyPost_ret (v := .tuple #[valV R A5 c5 B5 d5, .int .i64 t]) ?_ rfl ⟨_, rfl, ans_sets HV.out Hlt.out (Nat.lt_succ_self _) HBW.out.size _ _ _ _ _ _ _ _ _ _, five_sets Hw.out (Nat.le_succ _) _ _ _ _ _ _ _ _ _ _⟩
    rw [results_cell_tmp rfl]
    go_simp
set_option maxRecDepth 20000 in
set_option maxHeartbeats 2000000 in
theorem prim_add_arr (X Y : V) (hX : X.kind = 4) (hY : Y.kind = 4) (hs1 : X.parts.length + Y.parts.length ≤ 16777216) (R : V) (t : Int) (hR : sizedS (.mk 4 0 [] (X.parts ++ Y.parts) []) = (R, t)) (x0 x1 x2 x3 x4 : Value) (A : Option Addr) (c : Nat) (ok : Nat → Prop) (w : World) (hls : RdVs ok w (.slice A 2 c) 0 [X, Y]) :
    Calls Tryz.prog 46 #[.agg #[x0, x1, x2, x3, x4], .slice A 2 c] w (AnsPost w R t) := by
  have K2 := Lib.hid (show (decide (X.kind = 2) && decide (Y.kind = 2)) = false by simp [hX, hY])
  have K3 := Lib.hid (show (decide (X.kind = 3) && decide (Y.kind = 3)) = false by simp [hX, hY])
  have K4 := Lib.hid (show (decide (X.kind = 4) && decide (Y.kind = 4)) = true by simp [hX, hY])
  have HR := Lib.hid hR
  have Hsl := Lib.hid hs1
  clear hX hY hR hs1
  have Hls := Lib.hid hls
  obtain ⟨g, off, A1, c1, B1, d1, rfl, hog, hr0, e0, e1, e2, e3, e4⟩ := hls.elem 0 (by simp)
  obtain ⟨g', off', A2, c2, B2, d2, hgg, hog', hr1, f0, f1, f2, f3, f4⟩ := hls.elem 1 (by simp)
  injection hgg with hgg
  injection hgg with hg1 hg2
  subst hg1 hg2
  simp only [List.getElem_cons_zero, List.getElem_cons_succ, Nat.zero_mul, Nat.one_mul, Nat.add_zero] at e0 e1 e2 e3 e4 f0 f1 f2 f3 f4 hr0 hr1
  have E0 := fun X Y Z U => bcell (four_alloc w X Y Z U) e0
  have E1 := fun X Y Z U => bcell (four_alloc w X Y Z U) e1
  have E2 := fun X Y Z U => bcell (four_alloc w X Y Z U) e2
  have E3 := fun X Y Z U => bcell (four_alloc w X Y Z U) e3
  have E4 := fun X Y Z U => bcell (four_alloc w X Y Z U) e4
  have F0 := fun X Y Z U => bcell (four_alloc w X Y Z U) f0
  have F1 := fun X Y Z U => bcell (four_alloc w X Y Z U) f1
  have F2 := fun X Y Z U => bcell (four_alloc w X Y Z U) f2
  have F3 := fun X Y Z U => bcell (four_alloc w X Y Z U) f3
  have F4 := fun X Y Z U => bcell (four_alloc w X Y Z U) f4
  have P0 := fun X Y Z => bcell (three_alloc w X Y Z) e0
  have P1 := fun X Y Z => bcell (three_alloc w X Y Z) e1
  have P2 := fun X Y Z => bcell (three_alloc w X Y Z) e2
  have P3 := fun X Y Z => bcell (three_alloc w X Y Z) e3
  have P4 := fun X Y Z => bcell (three_alloc w X Y Z) e4
  have Q0 := fun X Y Z => bcell (three_alloc w X Y Z) f0
  have Q1 := fun X Y Z => bcell (three_alloc w X Y Z) f1
  have Q2 := fun X Y Z => bcell (three_alloc w X Y Z) f2
  have Q3 := fun X Y Z => bcell (three_alloc w X Y Z) f3
  have Q4 := fun X Y Z => bcell (three_alloc w X Y Z) f4
  have D0 := fun X Y => bcell (two_alloc w X Y) e0
  have D1 := fun X Y => bcell (two_alloc w X Y) e1
  have D2 := fun X Y => bcell (two_alloc w X Y) e2
  have D3 := fun X Y => bcell (two_alloc w X Y) e3
  have D4 := fun X Y => bcell (two_alloc w X Y) e4
  have G0 := fun X Y => bcell (two_alloc w X Y) f0
  have G1 := fun X Y => bcell (two_alloc w X Y) f1
  have G2 := fun X Y => bcell (two_alloc w X Y) f2
  have G3 := fun X Y => bcell (two_alloc w X Y) f3
  have G4 := fun X Y => bcell (two_alloc w X Y) f4
  have Hr0 := Lib.hid hr0
  have Hr1 := Lib.hid hr1
  have HS := Lib.hid (DoSt.made w x0 x1 x2 x3 x4)
  clear hls hog hog' hr0 hr1 e0 e1 e2 e3 e4 f0 f1 f2 f3 f4
  go_enter Tryz.func46, Tryz.ntmps46
  go_wp2_with fail
  go_upto_region 1 with fail
  go_cut [6, 7] (fun t6 t7 wx => ∃ ga gb, t6 = .pointer (some ⟨ga, 0, none⟩) ∧ t7 = .pointer (some ⟨gb, 0, none⟩) ∧ AddSt w x0 x1 x2 x3 x4 (valV X A1 c1 B1 d1) (valV Y A2 c2 B2 d2) ga gb wx)
  case first =>
    go_region
    all_goals go_wp2_with fail
    all_goals go_meet
    all_goals first
    | with_reducible exact ⟨_, _, rfl, rfl, addSt_1 _ _ _ _ _ _ _ _ _ _ _ _ _ _ _ _⟩
    | with_reducible exact ⟨_, _, rfl, rfl, addSt_2 _ _ _ _ _ _ _ _ _ _ _ _ _ _ _ _⟩
  case rest =>
    obtain ⟨ga, gb, rfl, rfl, hst⟩ := hcut
    have HA := Lib.hid hst
    have HW := Lib.hid hst.st.2.2.2.2.2.2.2.2.2.2.2
    clear hst E0 E1 E2 E3 E4 F0 F1 F2 F3 F4 P0 P1 P2 P3 P4 Q0 Q1 Q2 Q3 Q4 D0 D1 D2 D3 D4 G0 G1 G2 G3 G4 HS
    obtain ⟨_, _, _, lvX, kvX, hvX, _, hlX, _⟩ := Hr0.out.open
    injection hvX with hvX
    simp only [Array.mk.injEq, List.cons.injEq, and_true, true_and] at hvX
    obtain ⟨rfl, rfl⟩ := hvX
    obtain ⟨_, _, _, lvY, kvY, hvY, _, hlY, _⟩ := Hr1.out.open
    injection hvY with hvY
    simp only [Array.mk.injEq, List.cons.injEq, and_true, true_and] at hvY
    obtain ⟨rfl, rfl⟩ := hvY
    obtain ⟨nX, EX, CX⟩ := hlX.elems
    obtain ⟨nY, EY, CY⟩ := hlY.elems
    have HEX := Lib.hid EX
    have HEY := Lib.hid EY
    have HCX := Lib.hid (fun W (hb : Below w.heap.size w W) => cells_to CX hb)
    have HCY := Lib.hid (fun W (hb : Below w.heap.size w W) => cells_to CY hb)
    clear hlX hlY EX EY CX CY
    go_wp2_with fail
    have hk := fun (W : World) (p : Nat) hb h1 h2 => prim_kinds X Y 2 2 (some ⟨g, off, none⟩) c 2 p ok W (Hls.out.below hb) h1 h2
    refine (hk _ _ (bthen HW.out (one_b _ _)) (World.cell?_alloc_at _ _ _ _ (by simp)) (World.cell?_alloc_at _ _ _ _ (by simp))).mono ?_
    clear hk
    rw [K2.out]
    rintro e w1 ⟨rfl, rfl⟩
    go_wp2_with fail
    have hk := fun (W : World) (p : Nat) hb h1 h2 => prim_kinds X Y 3 3 (some ⟨g, off, none⟩) c 2 p ok W (Hls.out.below hb) h1 h2
    refine (hk _ _ (bthen HW.out (two_alloc _ _ _)) (World.cell?_alloc_at _ _ _ _ (by simp)) (World.cell?_alloc_at _ _ _ _ (by simp))).mono ?_
    clear hk
    rw [K3.out]
    rintro e w1 ⟨rfl, rfl⟩
    go_wp2_with fail
    have hk := fun (W : World) (p : Nat) hb h1 h2 => prim_kinds X Y 4 4 (some ⟨g, off, none⟩) c 2 p ok W (Hls.out.below hb) h1 h2
    refine (hk _ _ (bthen HW.out (three_alloc _ _ _ _)) (World.cell?_alloc_at _ _ _ _ (by simp)) (World.cell?_alloc_at _ _ _ _ (by simp))).mono ?_
    clear hk
    rw [K4.out]
    rintro e w1 ⟨rfl, rfl⟩
    have hX5 := HA.out.fX.get
    have hY5 := HA.out.fY.get
    have X3 := fun X Y Z => bcell (three_alloc wc X Y Z) hX5.2.2.2.1
    have Y3 := fun X Y Z => bcell (three_alloc wc X Y Z) hY5.2.2.2.1
    clear hX5 hY5
    go_wp2_with fail
    go_region_law (first
      | (refine step_append_gen rfl _ _ 22 rfl infoVal Tryz.underlying22 rfl (by decide) (by decide) rfl (OwnR.nil 25 5 (newB wc.heap.size) _) A1 X.parts.length c1 nX rfl HEX.out.len (HCX.out _ (bthen HW.out (three_alloc _ _ _ _).drew)) HEX.out.one (by have := Hsl.out; omega) (fun k hk => by simp only [newB]; simp at hk; omega) ?_; intro v1 w1 g1 g2; have HB1 := Lib.hid (bthen (three_alloc wc _ _ _).drew (below_of_grown g2)); have G1 := Lib.hid g1; have y3 := bcell HB1.out (HA.out.fY.get).2.2.2.1; clear g1 g2)
      | (refine step_append_gen rfl _ _ 22 rfl infoVal Tryz.underlying22 rfl (by decide) (by decide) rfl G1.out A2 Y.parts.length c2 nY rfl HEY.out.len (HCY.out _ (bthen HW.out HB1.out)) HEY.out.one (by have := Hsl.out; omega) (fun k hk => by have := HB1.out.size; simp only [newB]; omega) ?_; intro v2 w2 g3 g4; have HB2 := Lib.hid (below_grown HB1.out rfl g4 G1.out.blk); have G2 := Lib.hid g3; clear g3 g4; obtain ⟨A3, c3, rfl, _⟩ := G2.out.slice; have HBW := Lib.hid (bthen HW.out HB2.out); have HRd := Lib.hid (arr_rd G2.out (HEX.out.below HBW.out) (HEY.out.below HBW.out) Hsl.out))
      | (go_simp; go_at_call 66; refine (prim_sized' _ R t HR.out _ (fun _ => True) _ HRd.out).mono ?_; rintro e w5 ⟨v', rfl, hv', hb⟩; obtain ⟨A5, c5, B5, d5, rfl, _⟩ := hv'.form; have HV := Lib.hid hv'; have HSW := Lib.hid (HA.out.st.below HB2.out); have HS5 := Lib.hid (HSW.out.below hb); have Hlt := Lib.hid (lt_of_cell HSW.out.2.2.2.2.2.1); clear hv' hb; obtain ⟨h0, h1, h2, h3, h4, r0, r1, r2, r3, r4, hf, hw⟩ := HS5.out; have hf0 := hf 0; have hf1 := hf 1; have hf2 := hf 2; have hf3 := hf 3; have hf4 := hf 4; have Hw := Lib.hid hw; clear hw hf))
    all_goals go_wp2_with fail
    all_goals refine bodyPost_ret (v := .tuple #[valV R A5 c5 B5 d5, .int .i64 t]) ?_ rfl ⟨_, rfl, ans_sets HV.out Hlt.out (Nat.lt_succ_self _) HBW.out.size _ _ _ _ _ _ _ _ _ _, five_sets Hw.out (Nat.le_succ _) _ _ _ _ _ _ _ _ _ _⟩
    all_goals rw [results_cell_tmp rfl]
    all_goals go_simp
end Go.Proofs.YtacaknkfddlklaaGreatDoor
