/- prim.Do at numbers. -/
import Derived.Test.YtacaknkfddlklaaGreatDoorDoOps
set_option linter.unusedVariables false
set_option linter.unusedSimpArgs false
namespace Go.Proofs.YtacaknkfddlklaaGreatDoor
open Go.RowKit Go.IntWalk

/-- a number -/
def numb (a : Int) : V := .mk 2 a [] [] []
theorem right_numb (a : Int) : rightB (numb a) = true := by
  simp [rightB, numb, wS, wL, plainS]
theorem right_zero : rightB V.zero = true := by
  simp [rightB, V.zero, wS, wL, plainS]
abbrev aggK (k n : Int) (A : Option Addr) (c : Nat) (B : Option Addr) (d : Nat) : Value := .agg #[.int .i64 k, .int .i64 n, .string ⟨#[]⟩, .slice A 0 c, .slice B 0 d]
/-- a plain answer -/
def KPost (w : World) (k n t : Int) (e : Ending) (w' : World) : Prop := ∃ A c B d, e = .returned (.tuple #[aggK k n A c B d, .int .i64 t]) ∧ c ≤ 9223372036854775807 ∧ d ≤ 9223372036854775807 ∧ Below w.heap.size w w'
theorem KPost.of {w : World} {k n t : Int} {e : Ending} {w' : World} (h : AnsPost w (.mk k n [] [] []) t e w') : KPost w k n t e w' := by
  obtain ⟨v, he, hv, hb⟩ := h
  obtain ⟨A, c, B, d, rfl, h1, h2, h3, h4, _⟩ := hv.form
  exact ⟨A, c, B, d, he, h2, h4, hb⟩
theorem AnsPost.of {w : World} {k n t : Int} (hk : i64ok k) (hn : i64ok n) {e : Ending} {w' : World} (h : PlainPost w k n t e w') : AnsPost w (.mk k n [] [] []) t e w' :=
  ⟨_, h.1, RdV.plain k n [] hk hn (by simp), h.2⟩
/-- a row of two numbers; of one -/
theorem two_list {ok : Nat → Prop} {w : World} {g : Nat} (hg : ok g) {a b : Int} (ha : i64ok a) (hb : i64ok b) {A1 B1 A2 B2 : Option Addr} {c1 d1 c2 d2 : Nat} (n cap : Nat) (h1 : c1 ≤ 9223372036854775807) (h2 : d1 ≤ 9223372036854775807) (h3 : c2 ≤ 9223372036854775807) (h4 : d2 ≤ 9223372036854775807)
    (hc : ∀ i (h : i < 10), w.cell? ⟨g, i, none⟩ = some (#[.int .i64 2, .int .i64 a, .string ⟨#[]⟩, .slice A1 0 c1, .slice B1 0 d1, .int .i64 2, .int .i64 b, .string ⟨#[]⟩, .slice A2 0 c2, .slice B2 0 d2][i]'h)) :
    RdVs ok w (.slice (some ⟨g, 0, none⟩) n cap) 0 [numb a, numb b] := by
  have hn : ∀ (z : Int) (hz : i64ok z) (A B : Option Addr) (c d : Nat), c ≤ 9223372036854775807 → d ≤ 9223372036854775807 → RdV ok w (aggK 2 z A c B d) (numb z) := fun z hz A B c d hc hd =>
    RdV.close (i64ok_small (by decide) (by decide)) hz (by simp) ⟨A, c, rfl, by simp, hc, by simp⟩ (by unfold RdVs; trivial) (RdK.nil _ _ _ _ hd)
  unfold RdVs RdVs RdVs
  exact ⟨⟨g, 0, _, ⟨0, n, cap, rfl, rfl, hg⟩, ⟨_, _, _, _, _, rfl, hc 0 (by decide), hc 1 (by decide), hc 2 (by decide), hc 3 (by decide), hc 4 (by decide)⟩, hn a ha _ _ _ _ h1 h2⟩,
    ⟨g, 5, _, ⟨0, n, cap, rfl, rfl, hg⟩, ⟨_, _, _, _, _, rfl, hc 5 (by decide), hc 6 (by decide), hc 7 (by decide), hc 8 (by decide), hc 9 (by decide)⟩, hn b hb _ _ _ _ h3 h4⟩, trivial⟩
theorem one_list {ok : Nat → Prop} {w : World} {g : Nat} (hg : ok g) {a : Int} (ha : i64ok a) {A1 B1 : Option Addr} {c1 d1 : Nat} (n cap : Nat) (h1 : c1 ≤ 9223372036854775807) (h2 : d1 ≤ 9223372036854775807)
    (hc : ∀ i (h : i < 5), w.cell? ⟨g, i, none⟩ = some (#[.int .i64 2, .int .i64 a, .string ⟨#[]⟩, .slice A1 0 c1, .slice B1 0 d1][i]'h)) :
    RdVs ok w (.slice (some ⟨g, 0, none⟩) n cap) 0 [numb a] := by
  have hn : ∀ (z : Int) (hz : i64ok z) (A B : Option Addr) (c d : Nat), c ≤ 9223372036854775807 → d ≤ 9223372036854775807 → RdV ok w (aggK 2 z A c B d) (numb z) := fun z hz A B c d hc hd =>
    RdV.close (i64ok_small (by decide) (by decide)) hz (by simp) ⟨A, c, rfl, by simp, hc, by simp⟩ (by unfold RdVs; trivial) (RdK.nil _ _ _ _ hd)
  unfold RdVs RdVs
  exact ⟨⟨g, 0, _, ⟨0, n, cap, rfl, rfl, hg⟩, ⟨_, _, _, _, _, rfl, hc 0 (by decide), hc 1 (by decide), hc 2 (by decide), hc 3 (by decide), hc 4 (by decide)⟩, hn a ha _ _ _ _ h1 h2⟩, trivial⟩
theorem fits_two (op a b : Int) (h : op = 10 ∨ op = 11 ∨ op = 12 ∨ op = 13 ∨ op = 14) : fitsS op V.zero [numb a, numb b] = true := by
  have ht : takesS op 2 V.zero = 2 := by rcases h with rfl | rfl | rfl | rfl | rfl <;> rfl
  have h26 : op ≠ 26 := by omega
  simp [fitsS, right_numb, right_zero, ht, h26]
theorem fits_one (a : Int) : fitsS 15 V.zero [numb a] = true := by
  have ht : takesS 15 1 V.zero = 1 := rfl
  simp [fitsS, right_numb, right_zero, ht]
theorem zero_rd (ok : Nat → Prop) (w : World) : RdV ok w (aggV 0 0) V.zero := RdV.plain 0 0 [] (i64ok_small (by decide) (by decide)) (i64ok_small (by decide) (by decide)) (by simp)
theorem i64ok_2 : i64ok 2 := i64ok_small (by decide) (by decide)
theorem i64ok_0 : i64ok 0 := i64ok_small (by decide) (by decide)

theorem do10 (a b : Int) (A : Option Addr) (c : Nat) (ok : Nat → Prop) (w : World) (hls : RdVs ok w (.slice A 2 c) 0 [numb a, numb b]) (hlc : 2 ≤ c) (hcm : c ≤ 9223372036854775807) (hl : Hid (CodeLaid w)) :
    Calls Tryz.prog 12 #[.int .i64 10, aggV 0 0, .slice A 2 c] w (KPost w 2 (wrap64 (a + b)) 0) :=
  (prim_Do_10 V.zero [numb a, numb b] _ A c ok w (zero_rd _ _) hls hlc hcm hl (fits_two 10 a b (by simp)) (.mk 2 (wrap64 (a + b)) [] [] []) 0
    (fun w1 hb => (prim_add_ints (numb a) (numb b) rfl rfl _ _ _ _ _ A c ok w1 (hls.below hb)).mono fun e w' h => AnsPost.of i64ok_2 (i64ok_wrap _) h)).mono fun e w' h => KPost.of h
theorem do11 (a b : Int) (A : Option Addr) (c : Nat) (ok : Nat → Prop) (w : World) (hls : RdVs ok w (.slice A 2 c) 0 [numb a, numb b]) (hlc : 2 ≤ c) (hcm : c ≤ 9223372036854775807) (hl : Hid (CodeLaid w)) :
    Calls Tryz.prog 12 #[.int .i64 11, aggV 0 0, .slice A 2 c] w (KPost w 2 (wrap64 (a - b)) 0) :=
  (prim_Do_11 V.zero [numb a, numb b] _ A c ok w (zero_rd _ _) hls hlc hcm hl (fits_two 11 a b (by simp)) (.mk 2 (wrap64 (a - b)) [] [] []) 0
    (fun w1 p hb hp => (prim_ints_sub (numb a) (numb b) rfl rfl _ _ _ _ _ A c p ok w1 (hls.below hb) hp).mono fun e w' h => AnsPost.of i64ok_2 (i64ok_wrap _) h)).mono fun e w' h => KPost.of h
theorem do12 (a b : Int) (A : Option Addr) (c : Nat) (ok : Nat → Prop) (w : World) (hls : RdVs ok w (.slice A 2 c) 0 [numb a, numb b]) (hlc : 2 ≤ c) (hcm : c ≤ 9223372036854775807) (hl : Hid (CodeLaid w)) :
    Calls Tryz.prog 12 #[.int .i64 12, aggV 0 0, .slice A 2 c] w (KPost w 2 (wrap64 (a * b)) 0) :=
  (prim_Do_12 V.zero [numb a, numb b] _ A c ok w (zero_rd _ _) hls hlc hcm hl (fits_two 12 a b (by simp)) (.mk 2 (wrap64 (a * b)) [] [] []) 0
    (fun w1 p hb hp => (prim_ints_mul (numb a) (numb b) rfl rfl _ _ _ _ _ A c p ok w1 (hls.below hb) hp).mono fun e w' h => AnsPost.of i64ok_2 (i64ok_wrap _) h)).mono fun e w' h => KPost.of h
theorem do13 (a b : Int) (hz : b ≠ 0) (A : Option Addr) (c : Nat) (ok : Nat → Prop) (w : World) (hls : RdVs ok w (.slice A 2 c) 0 [numb a, numb b]) (hlc : 2 ≤ c) (hcm : c ≤ 9223372036854775807) (hl : Hid (CodeLaid w)) :
    Calls Tryz.prog 12 #[.int .i64 13, aggV 0 0, .slice A 2 c] w (KPost w 2 (wrap64 (a.tdiv b)) 0) :=
  (prim_Do_13 V.zero [numb a, numb b] _ A c ok w (zero_rd _ _) hls hlc hcm hl (fits_two 13 a b (by simp)) (.mk 2 (wrap64 (a.tdiv b)) [] [] []) 0
    (fun w1 p q hb hp hq => (prim_ints_quo (numb a) (numb b) rfl rfl hz _ _ _ _ _ A c p q ok w1 (hls.below hb) hp hq).mono fun e w' h => AnsPost.of i64ok_2 (i64ok_wrap _) h)).mono fun e w' h => KPost.of h
theorem tmod_le_self {a : Int} (b : Int) (h : 0 ≤ a) : a.tmod b ≤ a := by
  obtain ⟨m, rfl⟩ := Int.eq_ofNat_of_zero_le h
  have hm := Nat.mod_le m b.natAbs
  rcases Int.natAbs_eq b with hb | hb
  · rw [hb, ← Int.ofNat_tmod]; omega
  · rw [hb, Int.tmod_neg, ← Int.ofNat_tmod]; omega
theorem i64ok_tmod {a b : Int} (ha : i64ok a) (hb : i64ok b) (hz : b ≠ 0) : i64ok (a.tmod b) := by
  unfold i64ok at *
  rcases Int.le_total 0 a with h | h
  · have h1 : 0 ≤ a.tmod b := Int.tmod_nonneg b h
    have h2 : a.tmod b ≤ a := tmod_le_self b h
    omega
  · have e : a.tmod b = - ((-a).tmod b) := by rw [Int.neg_tmod, Int.neg_neg]
    have h1 : 0 ≤ (-a).tmod b := Int.tmod_nonneg b (by omega)
    have h2 : (-a).tmod b ≤ -a := tmod_le_self b (by omega)
    omega
theorem do14 (a b : Int) (ha : i64ok a) (hb0 : i64ok b) (hz : b ≠ 0) (A : Option Addr) (c : Nat) (ok : Nat → Prop) (w : World) (hls : RdVs ok w (.slice A 2 c) 0 [numb a, numb b]) (hlc : 2 ≤ c) (hcm : c ≤ 9223372036854775807) (hl : Hid (CodeLaid w)) :
    Calls Tryz.prog 12 #[.int .i64 14, aggV 0 0, .slice A 2 c] w (KPost w 2 (a.tmod b) 0) :=
  (prim_Do_14 V.zero [numb a, numb b] _ A c ok w (zero_rd _ _) hls hlc hcm hl (fits_two 14 a b (by simp)) (.mk 2 (a.tmod b) [] [] []) 0
    (fun w1 p q hb hp hq => (prim_ints_rem (numb a) (numb b) rfl rfl hz _ _ _ _ _ A c p q ok w1 (hls.below hb) hp hq).mono fun e w' h => AnsPost.of i64ok_2 (i64ok_tmod ha hb0 hz) h)).mono fun e w' h => KPost.of h
theorem do13z (a : Int) (A : Option Addr) (c : Nat) (ok : Nat → Prop) (w : World) (hls : RdVs ok w (.slice A 2 c) 0 [numb a, numb 0]) (hlc : 2 ≤ c) (hcm : c ≤ 9223372036854775807) (hl : Hid (CodeLaid w)) :
    Calls Tryz.prog 12 #[.int .i64 13, aggV 0 0, .slice A 2 c] w (KPost w 0 0 1) :=
  (prim_Do_13 V.zero [numb a, numb 0] _ A c ok w (zero_rd _ _) hls hlc hcm hl (fits_two 13 a 0 (by simp)) (.mk 0 0 [] [] []) 1
    (fun w1 p q hb hp hq => (prim_ints_quo0 (numb a) (numb 0) rfl rfl rfl _ _ _ _ _ A c p q ok w1 (hls.below hb) hp hq).mono fun e w' h => AnsPost.of i64ok_0 i64ok_0 h)).mono fun e w' h => KPost.of h
theorem do14z (a : Int) (A : Option Addr) (c : Nat) (ok : Nat → Prop) (w : World) (hls : RdVs ok w (.slice A 2 c) 0 [numb a, numb 0]) (hlc : 2 ≤ c) (hcm : c ≤ 9223372036854775807) (hl : Hid (CodeLaid w)) :
    Calls Tryz.prog 12 #[.int .i64 14, aggV 0 0, .slice A 2 c] w (KPost w 0 0 1) :=
  (prim_Do_14 V.zero [numb a, numb 0] _ A c ok w (zero_rd _ _) hls hlc hcm hl (fits_two 14 a 0 (by simp)) (.mk 0 0 [] [] []) 1
    (fun w1 p q hb hp hq => (prim_ints_rem0 (numb a) (numb 0) rfl rfl rfl _ _ _ _ _ A c p q ok w1 (hls.below hb) hp hq).mono fun e w' h => AnsPost.of i64ok_0 i64ok_0 h)).mono fun e w' h => KPost.of h
theorem do15 (a : Int) (A : Option Addr) (c : Nat) (ok : Nat → Prop) (w : World) (hls : RdVs ok w (.slice A 1 c) 0 [numb a]) (hlc : 1 ≤ c) (hcm : c ≤ 9223372036854775807) (hl : Hid (CodeLaid w)) :
    Calls Tryz.prog 12 #[.int .i64 15, aggV 0 0, .slice A 1 c] w (KPost w 2 (wrap64 (- a)) 0) :=
  (prim_Do_15 V.zero [numb a] _ A c ok w (zero_rd _ _) hls hlc hcm hl (fits_one a) (.mk 2 (wrap64 (- a)) [] [] []) 0
    (fun w1 hb => (prim_neg (numb a) _ _ _ _ _ A c ok w1 (hls.below hb)).mono fun e w' h => AnsPost.of i64ok_2 (i64ok_wrap _) h)).mono fun e w' h => KPost.of h
end Go.Proofs.YtacaknkfddlklaaGreatDoor
