/- Contract of prim.table. -/
import Derived.Test.YtacaknkfddlklaaGreatDoorGood
set_option linter.unusedVariables false
set_option linter.unusedSimpArgs false
namespace Go.Proofs.YtacaknkfddlklaaGreatDoor
open Go.RowKit Go.IntWalk Go.ChangeMaps Go.MapKept

/-- n entries have been stored -/
def Tst (w0 : World) (b n : Nat) (w : World) : Prop := TabG w b n ∧ Below w0.heap.size w0 w ∧ w0.heap.size ≤ b ∧ b < w.heap.size
theorem Tst.alloc {w0 w : World} {b n : Nat} (h : Tst w0 b n w) (X : Obj) : Tst w0 b n (w.alloc X) :=
  ⟨h.1.alloc X, h.2.1.alloc h.2.1.size X, h.2.2.1, by simp; exact Nat.lt_succ_of_lt h.2.2.2⟩
theorem Tst.grown {w0 w w' : World} {b n m : Nat} (h : Tst w0 b n w) (ht : TabG w' b m) (hg : w.grownBy w' (some b)) : Tst w0 b m w' :=
  ⟨ht, ⟨hg.os.trans h.2.1.os, hg.tape.trans h.2.1.tape, hg.output.trans h.2.1.output, Nat.le_trans h.2.1.size hg.size, fun k hk => (hg.block k (Nat.lt_of_lt_of_le hk h.2.1.size) (by have := h.2.2.1; intro e; injection e with e; omega)).trans (h.2.1.block k hk)⟩, h.2.2.1, Nat.lt_of_lt_of_le h.2.2.2 hg.size⟩
theorem box1 (w : World) (v : Value) (t : TypeId) : (w.alloc (.cells #[v] t)).cell? ⟨w.heap.size, 0, none⟩ = some v := World.cell?_alloc_at _ _ _ _ rfl
theorem box2 (w : World) (X : Obj) (v : Value) (t : TypeId) : ((w.alloc X).alloc (.cells #[v] t)).cell? ⟨w.heap.size + 1, 0, none⟩ = some v := by
  have h : (w.alloc X).heap.size = w.heap.size + 1 := by simp
  rw [← h]; exact box1 _ _ _
set_option maxRecDepth 20000 in
set_option maxHeartbeats 4000000 in
theorem prim_table (w : World) :
    Calls Tryz.prog 30 #[] w fun e w' => ∃ b, e = .returned (.map (some b)) ∧ Tst w b 28 w' := by
  have hmm : ∀ (w : World), (Instr.makeMap 52 none).run Tryz.prog w = .ok (.map (some w.heap.size)) (w.alloc (.map #[] 0)) := fun w => rfl
  have H0 : Hid (Tst w w.heap.size 0 (w.alloc (.map #[] 0))) := ⟨TabG.made w, (Below.refl _ _).alloc (Nat.le_refl _) _, Nat.le_refl _, by simp⟩

  go_enter Tryz.func30, Tryz.ntmps30
  go_wp2_with (first | (refine wpList_table rfl _ _ _ rfl w.heap.size 0 10 _ rfl rfl rfl H0.out.1 (by decide) rfl (Or.inl ⟨_, rfl, rfl⟩) ?_) | fail)
  intro w1 a1 g1
  have H1 := Lib.hid (H0.out.grown a1 g1)
  clear a1 g1 H0
  go_wp2_with fail
  refine (prim_ints _ _ _ _).mono ?_
  rintro e u1 ⟨rfl, rfl⟩
  have J1 := Lib.hid (H1.out.alloc (.cells #[.func (.func 48) #[] #[]] 74))
  have C1 : Hid (w1.heap.size ≠ w.heap.size) := by show _ ≠ _; have := H1.out.2.2.2; omega
  go_wp2_with (first | (refine wpList_table rfl _ _ _ rfl w.heap.size 1 11 _ rfl rfl rfl J1.out.1 (by decide) rfl (Or.inr (Or.inl ⟨_, _, rfl, rfl, C1.out, box1 _ _ _⟩)) ?_) | fail)
  intro w2 a2 g2
  have H2 := Lib.hid (J1.out.grown a2 g2)
  clear a2 g2 J1 C1
  go_wp2_with fail
  refine (prim_ints _ _ _ _).mono ?_
  rintro e u2 ⟨rfl, rfl⟩
  have J2 := Lib.hid (H2.out.alloc (.cells #[.func (.func 50) #[] #[]] 74))
  have C2 : Hid (w2.heap.size ≠ w.heap.size) := by show _ ≠ _; have := H2.out.2.2.2; omega
  go_wp2_with (first | (refine wpList_table rfl _ _ _ rfl w.heap.size 2 12 _ rfl rfl rfl J2.out.1 (by decide) rfl (Or.inr (Or.inl ⟨_, _, rfl, rfl, C2.out, box1 _ _ _⟩)) ?_) | fail)
  intro w3 a3 g3
  have H3 := Lib.hid (J2.out.grown a3 g3)
  clear a3 g3 J2 C2
  go_wp2_with fail
  refine (prim_divide _ _ _ _).mono ?_
  rintro e u3 ⟨rfl, rfl⟩
  have J3 := Lib.hid ((H3.out.alloc (.cells #[.func (.func 52) #[] #[]] 76)).alloc (.cells #[clos 104 w3.heap.size] 74))
  have C3 : Hid (w3.heap.size ≠ w.heap.size ∧ w3.heap.size + 1 ≠ w.heap.size) := by show _ ∧ _; have := H3.out.2.2.2; constructor <;> omega
  go_wp2_with (first | (refine wpList_table rfl _ _ _ rfl w.heap.size 3 13 _ rfl rfl rfl J3.out.1 (by decide) rfl (Or.inr (Or.inr (Or.inl ⟨_, _, _, rfl, rfl, C3.out.2, C3.out.1, box2 _ _ _ _, bcell ((Below.refl _ _).alloc (Nat.le_refl _) _) (box1 _ _ _)⟩))) ?_) | fail)
  intro w4 a4 g4
  have H4 := Lib.hid (J3.out.grown a4 g4)
  clear a4 g4 J3 C3
  go_wp2_with fail
  refine (prim_divide _ _ _ _).mono ?_
  rintro e u4 ⟨rfl, rfl⟩
  have J4 := Lib.hid ((H4.out.alloc (.cells #[.func (.func 53) #[] #[]] 76)).alloc (.cells #[clos 104 w4.heap.size] 74))
  have C4 : Hid (w4.heap.size ≠ w.heap.size ∧ w4.heap.size + 1 ≠ w.heap.size) := by show _ ∧ _; have := H4.out.2.2.2; constructor <;> omega
  go_wp2_with (first | (refine wpList_table rfl _ _ _ rfl w.heap.size 4 14 _ rfl rfl rfl J4.out.1 (by decide) rfl (Or.inr (Or.inr (Or.inl ⟨_, _, _, rfl, rfl, C4.out.2, C4.out.1, box2 _ _ _ _, bcell ((Below.refl _ _).alloc (Nat.le_refl _) _) (box1 _ _ _)⟩))) ?_) | fail)
  intro w5 a5 g5
  have H5 := Lib.hid (J4.out.grown a5 g5)
  clear a5 g5 J4 C4
  go_wp2_with (first | (refine wpList_table rfl _ _ _ rfl w.heap.size 5 15 _ rfl rfl rfl H5.out.1 (by decide) rfl (Or.inl ⟨_, rfl, rfl⟩) ?_) | fail)
  intro w6 a6 g6
  have H6 := Lib.hid (H5.out.grown a6 g6)
  clear a6 g6 H5
  go_wp2_with (first | (refine wpList_table rfl _ _ _ rfl w.heap.size 6 16 _ rfl rfl rfl H6.out.1 (by decide) rfl (Or.inl ⟨_, rfl, rfl⟩) ?_) | fail)
  intro w7 a7 g7
  have H7 := Lib.hid (H6.out.grown a7 g7)
  clear a7 g7 H6
  go_wp2_with (first | (refine wpList_table rfl _ _ _ rfl w.heap.size 7 17 _ rfl rfl rfl H7.out.1 (by decide) rfl (Or.inl ⟨_, rfl, rfl⟩) ?_) | fail)
  intro w8 a8 g8
  have H8 := Lib.hid (H7.out.grown a8 g8)
  clear a8 g8 H7
  go_wp2_with (first | (refine wpList_table rfl _ _ _ rfl w.heap.size 8 18 _ rfl rfl rfl H8.out.1 (by decide) rfl (Or.inl ⟨_, rfl, rfl⟩) ?_) | fail)
  intro w9 a9 g9
  have H9 := Lib.hid (H8.out.grown a9 g9)
  clear a9 g9 H8
  go_wp2_with fail
  refine (prim_order _ _ _ _).mono ?_
  rintro e u9 ⟨rfl, rfl⟩
  have J9 := Lib.hid (H9.out.alloc (.cells #[.func (.func 61) #[] #[]] 36))
  have C9 : Hid (w9.heap.size ≠ w.heap.size) := by show _ ≠ _; have := H9.out.2.2.2; omega
  go_wp2_with (first | (refine wpList_table rfl _ _ _ rfl w.heap.size 9 19 _ rfl rfl rfl J9.out.1 (by decide) rfl (Or.inr (Or.inr (Or.inr ⟨_, _, rfl, rfl, C9.out, box1 _ _ _⟩))) ?_) | fail)
  intro w10 a10 g10
  have H10 := Lib.hid (J9.out.grown a10 g10)
  clear a10 g10 J9 C9
  go_wp2_with fail
  refine (prim_order _ _ _ _).mono ?_
  rintro e u10 ⟨rfl, rfl⟩
  have J10 := Lib.hid (H10.out.alloc (.cells #[.func (.func 62) #[] #[]] 36))
  have C10 : Hid (w10.heap.size ≠ w.heap.size) := by show _ ≠ _; have := H10.out.2.2.2; omega
  go_wp2_with (first | (refine wpList_table rfl _ _ _ rfl w.heap.size 10 20 _ rfl rfl rfl J10.out.1 (by decide) rfl (Or.inr (Or.inr (Or.inr ⟨_, _, rfl, rfl, C10.out, box1 _ _ _⟩))) ?_) | fail)
  intro w11 a11 g11
  have H11 := Lib.hid (J10.out.grown a11 g11)
  clear a11 g11 J10 C10
  go_wp2_with fail
  refine (prim_order _ _ _ _).mono ?_
  rintro e u11 ⟨rfl, rfl⟩
  have J11 := Lib.hid (H11.out.alloc (.cells #[.func (.func 63) #[] #[]] 36))
  have C11 : Hid (w11.heap.size ≠ w.heap.size) := by show _ ≠ _; have := H11.out.2.2.2; omega
  go_wp2_with (first | (refine wpList_table rfl _ _ _ rfl w.heap.size 11 21 _ rfl rfl rfl J11.out.1 (by decide) rfl (Or.inr (Or.inr (Or.inr ⟨_, _, rfl, rfl, C11.out, box1 _ _ _⟩))) ?_) | fail)
  intro w12 a12 g12
  have H12 := Lib.hid (J11.out.grown a12 g12)
  clear a12 g12 J11 C11
  go_wp2_with fail
  refine (prim_order _ _ _ _).mono ?_
  rintro e u12 ⟨rfl, rfl⟩
  have J12 := Lib.hid (H12.out.alloc (.cells #[.func (.func 64) #[] #[]] 36))
  have C12 : Hid (w12.heap.size ≠ w.heap.size) := by show _ ≠ _; have := H12.out.2.2.2; omega
  go_wp2_with (first | (refine wpList_table rfl _ _ _ rfl w.heap.size 12 22 _ rfl rfl rfl J12.out.1 (by decide) rfl (Or.inr (Or.inr (Or.inr ⟨_, _, rfl, rfl, C12.out, box1 _ _ _⟩))) ?_) | fail)
  intro w13 a13 g13
  have H13 := Lib.hid (J12.out.grown a13 g13)
  clear a13 g13 J12 C12
  go_wp2_with (first | (refine wpList_table rfl _ _ _ rfl w.heap.size 13 23 _ rfl rfl rfl H13.out.1 (by decide) rfl (Or.inl ⟨_, rfl, rfl⟩) ?_) | fail)
  intro w14 a14 g14
  have H14 := Lib.hid (H13.out.grown a14 g14)
  clear a14 g14 H13
  go_wp2_with (first | (refine wpList_table rfl _ _ _ rfl w.heap.size 14 24 _ rfl rfl rfl H14.out.1 (by decide) rfl (Or.inl ⟨_, rfl, rfl⟩) ?_) | fail)
  intro w15 a15 g15
  have H15 := Lib.hid (H14.out.grown a15 g15)
  clear a15 g15 H14
  go_wp2_with (first | (refine wpList_table rfl _ _ _ rfl w.heap.size 15 25 _ rfl rfl rfl H15.out.1 (by decide) rfl (Or.inl ⟨_, rfl, rfl⟩) ?_) | fail)
  intro w16 a16 g16
  have H16 := Lib.hid (H15.out.grown a16 g16)
  clear a16 g16 H15
  go_wp2_with (first | (refine wpList_table rfl _ _ _ rfl w.heap.size 16 26 _ rfl rfl rfl H16.out.1 (by decide) rfl (Or.inl ⟨_, rfl, rfl⟩) ?_) | fail)
  intro w17 a17 g17
  have H17 := Lib.hid (H16.out.grown a17 g17)
  clear a17 g17 H16
  go_wp2_with (first | (refine wpList_table rfl _ _ _ rfl w.heap.size 17 27 _ rfl rfl rfl H17.out.1 (by decide) rfl (Or.inl ⟨_, rfl, rfl⟩) ?_) | fail)
  intro w18 a18 g18
  have H18 := Lib.hid (H17.out.grown a18 g18)
  clear a18 g18 H17
  go_wp2_with (first | (refine wpList_table rfl _ _ _ rfl w.heap.size 18 28 _ rfl rfl rfl H18.out.1 (by decide) rfl (Or.inl ⟨_, rfl, rfl⟩) ?_) | fail)
  intro w19 a19 g19
  have H19 := Lib.hid (H18.out.grown a19 g19)
  clear a19 g19 H18
  go_wp2_with (first | (refine wpList_table rfl _ _ _ rfl w.heap.size 19 29 _ rfl rfl rfl H19.out.1 (by decide) rfl (Or.inl ⟨_, rfl, rfl⟩) ?_) | fail)
  intro w20 a20 g20
  have H20 := Lib.hid (H19.out.grown a20 g20)
  clear a20 g20 H19
  go_wp2_with (first | (refine wpList_table rfl _ _ _ rfl w.heap.size 20 30 _ rfl rfl rfl H20.out.1 (by decide) rfl (Or.inl ⟨_, rfl, rfl⟩) ?_) | fail)
  intro w21 a21 g21
  have H21 := Lib.hid (H20.out.grown a21 g21)
  clear a21 g21 H20
  go_wp2_with (first | (refine wpList_table rfl _ _ _ rfl w.heap.size 21 31 _ rfl rfl rfl H21.out.1 (by decide) rfl (Or.inl ⟨_, rfl, rfl⟩) ?_) | fail)
  intro w22 a22 g22
  have H22 := Lib.hid (H21.out.grown a22 g22)
  clear a22 g22 H21
  go_wp2_with (first | (refine wpList_table rfl _ _ _ rfl w.heap.size 22 32 _ rfl rfl rfl H22.out.1 (by decide) rfl (Or.inl ⟨_, rfl, rfl⟩) ?_) | fail)
  intro w23 a23 g23
  have H23 := Lib.hid (H22.out.grown a23 g23)
  clear a23 g23 H22
  go_wp2_with (first | (refine wpList_table rfl _ _ _ rfl w.heap.size 23 33 _ rfl rfl rfl H23.out.1 (by decide) rfl (Or.inl ⟨_, rfl, rfl⟩) ?_) | fail)
  intro w24 a24 g24
  have H24 := Lib.hid (H23.out.grown a24 g24)
  clear a24 g24 H23
  go_wp2_with (first | (refine wpList_table rfl _ _ _ rfl w.heap.size 24 34 _ rfl rfl rfl H24.out.1 (by decide) rfl (Or.inl ⟨_, rfl, rfl⟩) ?_) | fail)
  intro w25 a25 g25
  have H25 := Lib.hid (H24.out.grown a25 g25)
  clear a25 g25 H24
  go_wp2_with (first | (refine wpList_table rfl _ _ _ rfl w.heap.size 25 35 _ rfl rfl rfl H25.out.1 (by decide) rfl (Or.inl ⟨_, rfl, rfl⟩) ?_) | fail)
  intro w26 a26 g26
  have H26 := Lib.hid (H25.out.grown a26 g26)
  clear a26 g26 H25
  go_wp2_with (first | (refine wpList_table rfl _ _ _ rfl w.heap.size 26 36 _ rfl rfl rfl H26.out.1 (by decide) rfl (Or.inl ⟨_, rfl, rfl⟩) ?_) | fail)
  intro w27 a27 g27
  have H27 := Lib.hid (H26.out.grown a27 g27)
  clear a27 g27 H26
  go_wp2_with (first | (refine wpList_table rfl _ _ _ rfl w.heap.size 27 37 _ rfl rfl rfl H27.out.1 (by decide) rfl (Or.inl ⟨_, rfl, rfl⟩) ?_) | fail)
  intro w28 a28 g28
  have H28 := Lib.hid (H27.out.grown a28 g28)
  clear a28 g28 H27
  go_wp2
  go_ret
  exact ⟨_, rfl, H28.out⟩
end Go.Proofs.YtacaknkfddlklaaGreatDoor
