/- Contract of print.right and Right. -/
import Derived.Test.YthlfeiiolafonaaDoorPrintSaid
import Derived.Test.YthlfeiiolafonaaDoorPrintCount
import Derived.Deep.DeepCutAuto
set_option linter.unusedVariables false
set_option linter.unusedSimpArgs false
namespace Go.Proofs.YthlfeiiolafonaaDoor
open Go.RowKit Go.IntWalk

theorem rightNs_at {k : Int} {t : List UInt8} {o : Nat} : ∀ {l : List N} {i j : Nat} (h : j < l.length), rightNs k t o i l = true → decide (o + innerK k t (bindingS l[j]) (i + j) ≤ 24) = true ∧ rightN (o + innerK k t (bindingS l[j]) (i + j)) l[j] = true
  | x :: l, i, 0, h, hr => by
    rw [rightNs, Bool.and_eq_true, Bool.and_eq_true] at hr
    exact ⟨hr.1, hr.2.1⟩
  | x :: l, i, j + 1, h, hr => by
    rw [rightNs, Bool.and_eq_true, Bool.and_eq_true] at hr
    have := rightNs_at (l := l) (i := i + 1) (j := j) (by simpa using h) hr.2.2
    rw [show i + (j + 1) = i + 1 + j by omega]
    exact this
theorem rightNs_all {k : Int} {t : List UInt8} {o : Nat} : ∀ {l : List N} {i : Nat}, (∀ j (h : j < l.length), decide (o + innerK k t (bindingS l[j]) (i + j) ≤ 24) = true ∧ rightN (o + innerK k t (bindingS l[j]) (i + j)) l[j] = true) → rightNs k t o i l = true
  | [], i, h => by rw [rightNs]
  | x :: l, i, h => by
    rw [rightNs, Bool.and_eq_true, Bool.and_eq_true]
    have h0 := h 0 (by simp)
    refine ⟨h0.1, h0.2, rightNs_all fun j hj => ?_⟩
    have := h (j + 1) (by simpa using hj)
    rw [show i + (j + 1) = i + 1 + j by omega] at this
    exact this
theorem rightN_eq (o : Nat) (n : N) : rightN o n = (decide (1 ≤ n.kind) && (decide (n.kind ≤ 22) && (saidS n && (shapeK n.kind (n.kids.map N.kind) && (decide (o + openK n.kind ≤ 24) && rightNs n.kind n.text (o + openK n.kind) 0 n.kids))))) := by
  cases n
  rw [rightN]
  rfl
/-- what the loop of right has seen -/
def Seen (k : Int) (t : List UInt8) (o : Nat) (l : List N) (m : Nat) : Prop := ∀ j (h : j < l.length), j < m → decide (o + innerK k t (bindingS l[j]) j ≤ 24) = true ∧ rightN (o + innerK k t (bindingS l[j]) j) l[j] = true
theorem Seen.step {k : Int} {t : List UInt8} {o : Nat} {l : List N} {m : Nat} (h : Seen k t o l m) (hm : m < l.length) (h1 : decide (o + innerK k t (bindingS l[m]) m ≤ 24) = true) (h2 : rightN (o + innerK k t (bindingS l[m]) m) l[m] = true) : Seen k t o l (m + 1) := by
  intro j hj hl
  by_cases e : j = m
  · subst e; exact ⟨h1, h2⟩
  · exact h j hj (by omega)
theorem Seen.all {k : Int} {t : List UInt8} {o : Nat} {l : List N} (h : Seen k t o l l.length) : rightNs k t o 0 l = true := rightNs_all fun j hj => by
  have := h j hj hj
  rw [Nat.zero_add]
  exact this
theorem seen_no {k : Int} {t : List UInt8} {o : Nat} {l : List N} {m : Nat} (hm : m < l.length) (h : ¬ (decide (o + innerK k t (bindingS l[m]) m ≤ 24) = true ∧ rightN (o + innerK k t (bindingS l[m]) m) l[m] = true)) : rightNs k t o 0 l = false := by
  rw [Bool.eq_false_iff]
  intro hr
  have := rightNs_at hm hr
  rw [Nat.zero_add] at this
  exact h this
theorem open_cases (k : Int) : ((k == 4) = true ∧ openK k = 1) ∨ ((k == 4) = false ∧ (k == 16) = true ∧ openK k = 1) ∨ ((k == 4) = false ∧ (k == 16) = false ∧ (k == 15) = true ∧ openK k = 1) ∨ ((k == 4) = false ∧ (k == 16) = false ∧ (k == 15) = false ∧ (k == 18) = true ∧ openK k = 1) ∨
    ((k == 4) = false ∧ (k == 16) = false ∧ (k == 15) = false ∧ (k == 18) = false ∧ (k == 19) = true ∧ openK k = 1) ∨ ((k == 4) = false ∧ (k == 16) = false ∧ (k == 15) = false ∧ (k == 18) = false ∧ (k == 19) = false ∧ openK k = 0) := by
  simp only [openK, beq_iff_eq, beq_eq_false_iff_ne]
  by_cases h4 : k = 4 <;> by_cases h16 : k = 16 <;> by_cases h15 : k = 15 <;> by_cases h18 : k = 18 <;> by_cases h19 : k = 19 <;> simp_all
/-- is a kid within one more? -/
def innerB (k : Int) (t : List UInt8) (b : Int) (i : Nat) : Bool := (k == 21 && (i : Int) == 1) || (exprK k && (k != 19 && wrapK k t b i))
theorem innerK_B (k : Int) (t : List UInt8) (b : Int) (i : Nat) : innerK k t b i = if innerB k t b i = true then 1 else 0 := by
  unfold innerK innerB
  have hi : (i : Int) = 1 ↔ i = 1 := by omega
  have h : ((k = 21 ∧ i = 1) ∨ (exprK k = true ∧ k ≠ 19 ∧ wrapK k t b i = true)) ↔ (((k == 21 && (i : Int) == 1) || (exprK k && (k != 19 && wrapK k t b i))) = true) := by
    simp only [Bool.or_eq_true, Bool.and_eq_true, beq_iff_eq, bne_iff_ne, hi]
  by_cases hp : (k = 21 ∧ i = 1) ∨ (exprK k = true ∧ k ≠ 19 ∧ wrapK k t b i = true)
  · rw [if_pos hp, if_pos (h.1 hp)]
  · rw [if_neg hp, if_neg (fun hh => hp (h.2 hh))]
/-- a node's box -/
abbrev boxN (n : N) (A : Option Addr) (c : Nat) (B : Option Addr) (d : Nat) (K : Option Addr) (e : Nat) : Obj :=
  .cells #[.int .i64 n.kind, .string ⟨n.text.toArray⟩, .int .i64 n.val.kind, .int .i64 n.val.num, .string ⟨n.val.str.toArray⟩, .slice A n.val.parts.length c, .slice B n.val.keys.length d, .bool n.flag, .slice K n.kids.length e, .int .i64 n.spot] 28
def headS (n : N) : Bool := decide (1 ≤ n.kind) && (decide (n.kind ≤ 22) && (saidS n && shapeK n.kind (n.kids.map N.kind)))
theorem rightN_head {o : Nat} {n : N} (h : headS n = false) : rightN o n = false := by
  rw [rightN_eq]
  unfold headS at h
  rw [Bool.eq_false_iff] at *
  intro hh
  apply h
  simp only [Bool.and_eq_true] at *
  exact ⟨hh.1, hh.2.1, hh.2.2.1, hh.2.2.2.1⟩
theorem rightN_rest {o : Nat} {n : N} (h : headS n = true) : rightN o n = (decide (o + openK n.kind ≤ 24) && rightNs n.kind n.text (o + openK n.kind) 0 n.kids) := by
  rw [rightN_eq]
  unfold headS at h
  simp only [Bool.and_eq_true] at h
  rw [h.1, h.2.1, h.2.2.1, h.2.2.2]
  rfl
set_option maxRecDepth 20000 in
set_option maxHeartbeats 8000000 in
theorem print_right (m : Nat) : ∀ (n : N) (v : Value) (ok : Nat → Prop) (w : World) (o : Nat) (hv : RdN ok w v n) (hm : SizeOf.sizeOf n ≤ m) (ho : o ≤ 24),
    Calls Tryd.prog 20 #[v, .int .i64 (o : Int)] w fun e1 w' => e1 = .returned (.bool (rightN o n)) ∧ Below w.heap.size w w' := by
  induction m using Nat.strongRecOn with
  | _ m ih =>
  intro n v ok w o hv hm ho
  obtain ⟨A, c, B, d, K, e, rfl, hn⟩ := hv.form
  have HN := Lib.hid hn
  have HL := Lib.hid hn.kids
  have hlen := hn.len
  have hcap := hn.cap
  have hmost := hn.most
  have Hm := Lib.hid hm
  have Hih := Lib.hid ih
  have Ho := Lib.hid ho
  have ho1 : (o : Int) ≤ 24 := by omega
  have ho0 : (0 : Int) ≤ (o : Int) := by omega
  have hpar := hn.rd
  have HP := Lib.hid hpar
  clear hv hn hm ih ho hpar
  go_enter Tryd.func20, Tryd.ntmps20
  go_upto_region 1 with fail
  go_cut [25] (fun t25 wx => t25 = .bool (!headS n) ∧ Below (w.alloc (boxN n A c B d K e)).heap.size (w.alloc (boxN n A c B d K e)) wx)
  case first =>
    by_cases h1 : n.kind < 1
    · have hh : headS n = false := by simp [headS]; omega
      have HH := Lib.hid hh
      clear hh
      go_wp2_with fail
      go_meet
      exact ⟨by rw [HH.out]; rfl, Below.refl _ _⟩
    · by_cases h2 : 22 < n.kind
      · have hh : headS n = false := by simp [headS]; omega
        have HH := Lib.hid hh
        clear hh
        go_wp2_with fail
        go_meet
        exact ⟨by rw [HH.out]; rfl, Below.refl _ _⟩
      · have h3 : 1 ≤ n.kind := by omega
        have h4 : n.kind ≤ 22 := by omega
        have hh : headS n = (saidS n && shapeK n.kind (n.kids.map N.kind)) := by simp [headS, h3, h4]
        have HS := Lib.hid (fun W hv => print_said n h3 h4 (valN n A c B d K e) ok W hv)
        have HSh := Lib.hid (fun W hv => print_shaped n h3 h4 (valN n A c B d K e) ok W hv)
        have HH := Lib.hid hh
        clear hh
        go_wp2_with fail
        refine (HS.out _ (HP.out.below (one_al _ _))).mono ?_
        rintro e1 w1 ⟨rfl, hb⟩
        have HB := Lib.hid hb
        obtain ⟨b0, b1, b2, b3, b4, b5, b6, b7, b8, b9⟩ := box10 hb
        clear hb
        cases hs : saidS n with
        | false =>
          have HSd := Lib.hid hs
          clear hs
          go_wp2_with fail
          go_meet
          exact ⟨by rw [HH.out, HSd.out]; rfl, HB.out⟩
        | true =>
          have HSd := Lib.hid hs
          clear hs
          go_wp2_with fail
          refine (HSh.out _ (HP.out.below (bthen (one_al _ _) HB.out))).mono ?_
          rintro e2 w2 ⟨rfl, hb⟩
          have HB2 := Lib.hid (bthen HB.out hb)
          clear hb b0 b1 b2 b3 b4 b5 b6 b7 b8 b9
          go_wp2_with fail
          go_meet
          exact ⟨by rw [HH.out, HSd.out]; rfl, HB2.out⟩
  case rest =>
    obtain ⟨rfl, hB⟩ := hcut
    have HB0 := Lib.hid hB
    cases hh : headS n with
    | false =>
      have HH := Lib.hid hh
      clear hh hB
      go_wp2_with fail
      go_ret
      exact ⟨ret_bool (rightN_head HH.out).symm, bthen (one_al _ _) HB0.out⟩
    | true =>
      have HRest := Lib.hid (rightN_rest (o := o) hh)
      obtain ⟨b0, b1, b2, b3, b4, b5, b6, b7, b8, b9⟩ := box10 hB
      clear hh hB
      rcases open_cases n.kind with ⟨g4, hop⟩ | ⟨g4, g16, hop⟩ | ⟨g4, g16, g15, hop⟩ | ⟨g4, g16, g15, g18, hop⟩ | ⟨g4, g16, g15, g18, g19, hop⟩ | ⟨g4, g16, g15, g18, g19, hop⟩
      · rw [hop] at HRest
        clear hop
        by_cases hbig : 24 < (o : Int) + 1
        · have hres := Lib.hid (show (decide ((o + 1) ≤ 24) && rightNs n.kind n.text (o + 1) 0 n.kids) = false by simp; intro h; omega)
          go_wp2_with fail
          go_ret
          exact ⟨ret_bool (by rw [HRest.out]; exact hres.out.symm), bthen (one_al _ _) HB0.out⟩
        · have hres := Lib.hid (show rightN o n = rightNs n.kind n.text (o + 1) 0 n.kids by rw [HRest.out]; simp; intro h; omega)
          have HO := Lib.hid (show (o + 1) ≤ 24 by omega)
          go_wp2_with fail
          clear b0 b1 b2 b3 b4 b5 b6 b7 b8 b9
          go_loopw [41] (fun i wr => ∃ k, k ≤ n.kids.length ∧ i = .int .i64 (k : Int) ∧ Seen n.kind n.text (o + 1) n.kids k ∧ Below (w.alloc (boxN n A c B d K e)).heap.size (w.alloc (boxN n A c B d K e)) wr) (fun i _ => n.kids.length - (intOf i).toNat)
          case atStart => exact ⟨0, Nat.zero_le _, rfl, fun j _ h => absurd h (Nat.not_lt_zero j), HB0.out⟩
          case round =>
            obtain ⟨k, hk, rfl, hS, hB⟩ := hrel
            have HS := Lib.hid hS
            have HB := Lib.hid hB
            clear hS hB
            by_cases hlt : k < n.kids.length
            · have hlA : (k : Int) < (n.kids.length : Int) := by omega
              have h00 : (0 : Int) ≤ (k : Int) := by omega
              have HW := Lib.hid (fun W hv => print_wrapped n k hlt (valN n A c B d K e) ok W hv)
              have HI := Lib.hid (fun (W : World) (vv : Value) (q : Nat) (qi : Int) (hq : qi = (q : Int)) (hv : RdN ok W vv n.kids[k]) (hq24 : q ≤ 24) => hq ▸ Hih.out (SizeOf.sizeOf n.kids[k]) (Nat.lt_of_lt_of_le (N.sz_kid hlt) Hm.out) n.kids[k] vv ok W q hv (Nat.le_refl _) hq24)
              have HSt := Lib.hid (fun h1 h2 => HS.out.step hlt h1 h2)
              have HNo := Lib.hid (fun h => seen_no (k := n.kind) (t := n.text) (o := (o + 1)) hlt h)
              obtain ⟨g, off, A', c', B', d', K', e', rfl, _, hk', k0, k1, k2, k3, k4, k5, k6, k7, k8, k9⟩ := (HL.out.below (bthen (one_al _ _) HB.out)).elem k hlt
              unfold wrapS at HW
              generalize n.kids[k] = Y at *
              have HK := Lib.hid hk'
              clear hk'
              obtain ⟨b0, b1, b2, b3, b4, b5, b6, b7, b8, b9⟩ := box10 HB.out
              have z0 := fun X => bcell (one_al wr X) b0
              have z1 := fun X => bcell (one_al wr X) b1
              have z2 := fun X => bcell (one_al wr X) b2
              have z3 := fun X => bcell (one_al wr X) b3
              have z4 := fun X => bcell (one_al wr X) b4
              have z5 := fun X => bcell (one_al wr X) b5
              have z6 := fun X => bcell (one_al wr X) b6
              have z7 := fun X => bcell (one_al wr X) b7
              have z8 := fun X => bcell (one_al wr X) b8
              have z9 := fun X => bcell (one_al wr X) b9
              go_upto_region 16 with fail
              clear b0 b1 b2 b3 b4 b5 b6 b7 b8 b9 k0 k1 k2 k3 k4 k5 k6 k7 k8 k9
              go_cut [68] (fun t68 wx => t68 = .bool (innerB n.kind n.text (bindingS Y) k) ∧ Below (wr.alloc (boxN Y A' c' B' d' K' e')).heap.size (wr.alloc (boxN Y A' c' B' d' K' e')) wx)
              case first =>
                cases c21 : (n.kind == 21)
                · cases ce : exprK n.kind
                  · have HCE := Lib.hid ce
                    clear ce
                    go_wp2_with fail
                    refine (print_expression n.kind _).mono ?_
                    rintro e1 w1 ⟨rfl, rfl⟩
                    rw [HCE.out]
                    go_wp2_with fail
                    go_meet
                    exact ⟨by unfold innerB; rw [c21, HCE.out]; rfl, Below.refl _ _⟩
                  · have HCE := Lib.hid ce
                    clear ce
                    cases c19 : (n.kind != 19)
                    · go_wp2_with fail
                      refine (print_expression n.kind _).mono ?_
                      rintro e1 w1 ⟨rfl, rfl⟩
                      rw [HCE.out]
                      go_wp2_with fail
                      go_meet
                      exact ⟨by unfold innerB; rw [c21, HCE.out, c19]; rfl, Below.refl _ _⟩
                    · go_wp2_with fail
                      refine (print_expression n.kind _).mono ?_
                      rintro e1 w1 ⟨rfl, rfl⟩
                      rw [HCE.out]
                      go_wp2_with fail
                      refine (HW.out _ (HP.out.below (bthen (bthen (one_al _ _) HB.out) (one_al _ _)))).mono ?_
                      rintro e1 w1 ⟨rfl, hb⟩
                      have HB1 := Lib.hid hb
                      clear hb
                      go_wp2_with fail
                      go_meet
                      exact ⟨by unfold innerB; rw [c21, HCE.out, c19]; rfl, HB1.out⟩
                · cases c1 : ((k : Int) == 1)
                  · cases ce : exprK n.kind
                    · have HCE := Lib.hid ce
                      clear ce
                      go_wp2_with fail
                      refine (print_expression n.kind _).mono ?_
                      rintro e1 w1 ⟨rfl, rfl⟩
                      rw [HCE.out]
                      go_wp2_with fail
                      go_meet
                      exact ⟨by unfold innerB; rw [c21, c1, HCE.out]; rfl, Below.refl _ _⟩
                    · have HCE := Lib.hid ce
                      clear ce
                      cases c19 : (n.kind != 19)
                      · go_wp2_with fail
                        refine (print_expression n.kind _).mono ?_
                        rintro e1 w1 ⟨rfl, rfl⟩
                        rw [HCE.out]
                        go_wp2_with fail
                        go_meet
                        exact ⟨by unfold innerB; rw [c21, c1, HCE.out, c19]; rfl, Below.refl _ _⟩
                      · go_wp2_with fail
                        refine (print_expression n.kind _).mono ?_
                        rintro e1 w1 ⟨rfl, rfl⟩
                        rw [HCE.out]
                        go_wp2_with fail
                        refine (HW.out _ (HP.out.below (bthen (bthen (one_al _ _) HB.out) (one_al _ _)))).mono ?_
                        rintro e1 w1 ⟨rfl, hb⟩
                        have HB1 := Lib.hid hb
                        clear hb
                        go_wp2_with fail
                        go_meet
                        exact ⟨by unfold innerB; rw [c21, c1, HCE.out, c19]; rfl, HB1.out⟩
                  · go_wp2_with fail
                    go_meet
                    exact ⟨by unfold innerB; rw [c21, c1]; rfl, Below.refl _ _⟩
              case rest =>
                obtain ⟨rfl, hB1⟩ := hcut
                have HBY := Lib.hid hB1
                obtain ⟨y0, y1, y2, y3, y4, y5, y6, y7, y8, y9⟩ := box10 hB1
                have hik := innerK_B n.kind n.text (bindingS Y) k
                clear hB1
                generalize innerB n.kind n.text (bindingS Y) k = ib at *
                cases ib with
                | false =>
                  rw [if_neg (by decide)] at hik
                  rw [hik] at HSt HNo
                  clear hik
                  go_wp2_with fail
                  refine (HI.out _ _ (o + 1) _ rfl (HK.out.rd.below (bthen (one_al _ _) HBY.out)) HO.out).mono ?_
                  rintro e1 w1 ⟨rfl, hb⟩
                  have HB1 := Lib.hid (bthen (bthen (bthen HB.out (one_al _ _)) HBY.out) hb)
                  clear hb
                  cases hr : rightN (o + 1) Y with
                  | false =>
                    have HR := Lib.hid hr
                    clear hr
                    go_wp2_with fail
                    go_ret
                    exact ⟨ret_bool (by rw [hres.out]; exact (HNo.out (by rw [Nat.add_zero, HR.out]; simp)).symm), bthen (one_al _ _) HB1.out⟩
                  | true =>
                    have HR := Lib.hid hr
                    clear hr
                    go_wp2_with fail
                    exact ⟨⟨k + 1, by omega, by go_num, HSt.out (by rw [Nat.add_zero]; simpa using HO.out) (by rw [Nat.add_zero]; exact HR.out), HB1.out⟩, by simp [intOf]; omega⟩
                | true =>
                  rw [if_pos rfl] at hik
                  rw [hik] at HSt HNo
                  clear hik
                  by_cases hb2 : 24 < (o : Int) + 1 + 1
                  · have HBig := Lib.hid hb2
                    go_wp2_with fail
                    go_ret
                    exact ⟨ret_bool (by rw [hres.out]; exact (HNo.out (by have := HBig.out; simp; omega)).symm), bthen (one_al _ _) (bthen (bthen HB.out (one_al _ _)) HBY.out)⟩
                  · have HBig := Lib.hid hb2
                    go_wp2_with fail
                    refine (HI.out _ _ ((o + 1) + 1) _ rfl (HK.out.rd.below (bthen (one_al _ _) HBY.out)) (by have := HBig.out; omega)).mono ?_
                    rintro e1 w1 ⟨rfl, hb⟩
                    have HB1 := Lib.hid (bthen (bthen (bthen HB.out (one_al _ _)) HBY.out) hb)
                    clear hb
                    cases hr : rightN ((o + 1) + 1) Y with
                    | false =>
                      have HR := Lib.hid hr
                      clear hr
                      go_wp2_with fail
                      go_ret
                      exact ⟨ret_bool (by rw [hres.out]; exact (HNo.out (by rw [HR.out]; simp)).symm), bthen (one_al _ _) HB1.out⟩
                    | true =>
                      have HR := Lib.hid hr
                      clear hr
                      go_wp2_with fail
                      exact ⟨⟨k + 1, by omega, by go_num, HSt.out (by have := HBig.out; simp; omega) HR.out, HB1.out⟩, by simp [intOf]; omega⟩
            · have hlA : ¬ (k : Int) < (n.kids.length : Int) := by omega
              have hkk : k = n.kids.length := by omega
              have HSe := Lib.hid (show Seen n.kind n.text (o + 1) n.kids n.kids.length by rw [← hkk]; exact HS.out)
              clear hkk
              go_wp2_with fail
              go_ret
              exact ⟨ret_bool (by rw [hres.out]; exact HSe.out.all.symm), bthen (one_al _ _) HB.out⟩
      · rw [hop] at HRest
        clear hop
        by_cases hbig : 24 < (o : Int) + 1
        · have hres := Lib.hid (show (decide ((o + 1) ≤ 24) && rightNs n.kind n.text (o + 1) 0 n.kids) = false by simp; intro h; omega)
          go_wp2_with fail
          go_ret
          exact ⟨ret_bool (by rw [HRest.out]; exact hres.out.symm), bthen (one_al _ _) HB0.out⟩
        · have hres := Lib.hid (show rightN o n = rightNs n.kind n.text (o + 1) 0 n.kids by rw [HRest.out]; simp; intro h; omega)
          have HO := Lib.hid (show (o + 1) ≤ 24 by omega)
          go_wp2_with fail
          clear b0 b1 b2 b3 b4 b5 b6 b7 b8 b9
          go_loopw [41] (fun i wr => ∃ k, k ≤ n.kids.length ∧ i = .int .i64 (k : Int) ∧ Seen n.kind n.text (o + 1) n.kids k ∧ Below (w.alloc (boxN n A c B d K e)).heap.size (w.alloc (boxN n A c B d K e)) wr) (fun i _ => n.kids.length - (intOf i).toNat)
          case atStart => exact ⟨0, Nat.zero_le _, rfl, fun j _ h => absurd h (Nat.not_lt_zero j), HB0.out⟩
          case round =>
            obtain ⟨k, hk, rfl, hS, hB⟩ := hrel
            have HS := Lib.hid hS
            have HB := Lib.hid hB
            clear hS hB
            by_cases hlt : k < n.kids.length
            · have hlA : (k : Int) < (n.kids.length : Int) := by omega
              have h00 : (0 : Int) ≤ (k : Int) := by omega
              have HW := Lib.hid (fun W hv => print_wrapped n k hlt (valN n A c B d K e) ok W hv)
              have HI := Lib.hid (fun (W : World) (vv : Value) (q : Nat) (qi : Int) (hq : qi = (q : Int)) (hv : RdN ok W vv n.kids[k]) (hq24 : q ≤ 24) => hq ▸ Hih.out (SizeOf.sizeOf n.kids[k]) (Nat.lt_of_lt_of_le (N.sz_kid hlt) Hm.out) n.kids[k] vv ok W q hv (Nat.le_refl _) hq24)
              have HSt := Lib.hid (fun h1 h2 => HS.out.step hlt h1 h2)
              have HNo := Lib.hid (fun h => seen_no (k := n.kind) (t := n.text) (o := (o + 1)) hlt h)
              obtain ⟨g, off, A', c', B', d', K', e', rfl, _, hk', k0, k1, k2, k3, k4, k5, k6, k7, k8, k9⟩ := (HL.out.below (bthen (one_al _ _) HB.out)).elem k hlt
              unfold wrapS at HW
              generalize n.kids[k] = Y at *
              have HK := Lib.hid hk'
              clear hk'
              obtain ⟨b0, b1, b2, b3, b4, b5, b6, b7, b8, b9⟩ := box10 HB.out
              have z0 := fun X => bcell (one_al wr X) b0
              have z1 := fun X => bcell (one_al wr X) b1
              have z2 := fun X => bcell (one_al wr X) b2
              have z3 := fun X => bcell (one_al wr X) b3
              have z4 := fun X => bcell (one_al wr X) b4
              have z5 := fun X => bcell (one_al wr X) b5
              have z6 := fun X => bcell (one_al wr X) b6
              have z7 := fun X => bcell (one_al wr X) b7
              have z8 := fun X => bcell (one_al wr X) b8
              have z9 := fun X => bcell (one_al wr X) b9
              go_upto_region 16 with fail
              clear b0 b1 b2 b3 b4 b5 b6 b7 b8 b9 k0 k1 k2 k3 k4 k5 k6 k7 k8 k9
              go_cut [68] (fun t68 wx => t68 = .bool (innerB n.kind n.text (bindingS Y) k) ∧ Below (wr.alloc (boxN Y A' c' B' d' K' e')).heap.size (wr.alloc (boxN Y A' c' B' d' K' e')) wx)
              case first =>
                cases c21 : (n.kind == 21)
                · cases ce : exprK n.kind
                  · have HCE := Lib.hid ce
                    clear ce
                    go_wp2_with fail
                    refine (print_expression n.kind _).mono ?_
                    rintro e1 w1 ⟨rfl, rfl⟩
                    rw [HCE.out]
                    go_wp2_with fail
                    go_meet
                    exact ⟨by unfold innerB; rw [c21, HCE.out]; rfl, Below.refl _ _⟩
                  · have HCE := Lib.hid ce
                    clear ce
                    cases c19 : (n.kind != 19)
                    · go_wp2_with fail
                      refine (print_expression n.kind _).mono ?_
                      rintro e1 w1 ⟨rfl, rfl⟩
                      rw [HCE.out]
                      go_wp2_with fail
                      go_meet
                      exact ⟨by unfold innerB; rw [c21, HCE.out, c19]; rfl, Below.refl _ _⟩
                    · go_wp2_with fail
                      refine (print_expression n.kind _).mono ?_
                      rintro e1 w1 ⟨rfl, rfl⟩
                      rw [HCE.out]
                      go_wp2_with fail
                      refine (HW.out _ (HP.out.below (bthen (bthen (one_al _ _) HB.out) (one_al _ _)))).mono ?_
                      rintro e1 w1 ⟨rfl, hb⟩
                      have HB1 := Lib.hid hb
                      clear hb
                      go_wp2_with fail
                      go_meet
                      exact ⟨by unfold innerB; rw [c21, HCE.out, c19]; rfl, HB1.out⟩
                · cases c1 : ((k : Int) == 1)
                  · cases ce : exprK n.kind
                    · have HCE := Lib.hid ce
                      clear ce
                      go_wp2_with fail
                      refine (print_expression n.kind _).mono ?_
                      rintro e1 w1 ⟨rfl, rfl⟩
                      rw [HCE.out]
                      go_wp2_with fail
                      go_meet
                      exact ⟨by unfold innerB; rw [c21, c1, HCE.out]; rfl, Below.refl _ _⟩
                    · have HCE := Lib.hid ce
                      clear ce
                      cases c19 : (n.kind != 19)
                      · go_wp2_with fail
                        refine (print_expression n.kind _).mono ?_
                        rintro e1 w1 ⟨rfl, rfl⟩
                        rw [HCE.out]
                        go_wp2_with fail
                        go_meet
                        exact ⟨by unfold innerB; rw [c21, c1, HCE.out, c19]; rfl, Below.refl _ _⟩
                      · go_wp2_with fail
                        refine (print_expression n.kind _).mono ?_
                        rintro e1 w1 ⟨rfl, rfl⟩
                        rw [HCE.out]
                        go_wp2_with fail
                        refine (HW.out _ (HP.out.below (bthen (bthen (one_al _ _) HB.out) (one_al _ _)))).mono ?_
                        rintro e1 w1 ⟨rfl, hb⟩
                        have HB1 := Lib.hid hb
                        clear hb
                        go_wp2_with fail
                        go_meet
                        exact ⟨by unfold innerB; rw [c21, c1, HCE.out, c19]; rfl, HB1.out⟩
                  · go_wp2_with fail
                    go_meet
                    exact ⟨by unfold innerB; rw [c21, c1]; rfl, Below.refl _ _⟩
              case rest =>
                obtain ⟨rfl, hB1⟩ := hcut
                have HBY := Lib.hid hB1
                obtain ⟨y0, y1, y2, y3, y4, y5, y6, y7, y8, y9⟩ := box10 hB1
                have hik := innerK_B n.kind n.text (bindingS Y) k
                clear hB1
                generalize innerB n.kind n.text (bindingS Y) k = ib at *
                cases ib with
                | false =>
                  rw [if_neg (by decide)] at hik
                  rw [hik] at HSt HNo
                  clear hik
                  go_wp2_with fail
                  refine (HI.out _ _ (o + 1) _ rfl (HK.out.rd.below (bthen (one_al _ _) HBY.out)) HO.out).mono ?_
                  rintro e1 w1 ⟨rfl, hb⟩
                  have HB1 := Lib.hid (bthen (bthen (bthen HB.out (one_al _ _)) HBY.out) hb)
                  clear hb
                  cases hr : rightN (o + 1) Y with
                  | false =>
                    have HR := Lib.hid hr
                    clear hr
                    go_wp2_with fail
                    go_ret
                    exact ⟨ret_bool (by rw [hres.out]; exact (HNo.out (by rw [Nat.add_zero, HR.out]; simp)).symm), bthen (one_al _ _) HB1.out⟩
                  | true =>
                    have HR := Lib.hid hr
                    clear hr
                    go_wp2_with fail
                    exact ⟨⟨k + 1, by omega, by go_num, HSt.out (by rw [Nat.add_zero]; simpa using HO.out) (by rw [Nat.add_zero]; exact HR.out), HB1.out⟩, by simp [intOf]; omega⟩
                | true =>
                  rw [if_pos rfl] at hik
                  rw [hik] at HSt HNo
                  clear hik
                  by_cases hb2 : 24 < (o : Int) + 1 + 1
                  · have HBig := Lib.hid hb2
                    go_wp2_with fail
                    go_ret
                    exact ⟨ret_bool (by rw [hres.out]; exact (HNo.out (by have := HBig.out; simp; omega)).symm), bthen (one_al _ _) (bthen (bthen HB.out (one_al _ _)) HBY.out)⟩
                  · have HBig := Lib.hid hb2
                    go_wp2_with fail
                    refine (HI.out _ _ ((o + 1) + 1) _ rfl (HK.out.rd.below (bthen (one_al _ _) HBY.out)) (by have := HBig.out; omega)).mono ?_
                    rintro e1 w1 ⟨rfl, hb⟩
                    have HB1 := Lib.hid (bthen (bthen (bthen HB.out (one_al _ _)) HBY.out) hb)
                    clear hb
                    cases hr : rightN ((o + 1) + 1) Y with
                    | false =>
                      have HR := Lib.hid hr
                      clear hr
                      go_wp2_with fail
                      go_ret
                      exact ⟨ret_bool (by rw [hres.out]; exact (HNo.out (by rw [HR.out]; simp)).symm), bthen (one_al _ _) HB1.out⟩
                    | true =>
                      have HR := Lib.hid hr
                      clear hr
                      go_wp2_with fail
                      exact ⟨⟨k + 1, by omega, by go_num, HSt.out (by have := HBig.out; simp; omega) HR.out, HB1.out⟩, by simp [intOf]; omega⟩
            · have hlA : ¬ (k : Int) < (n.kids.length : Int) := by omega
              have hkk : k = n.kids.length := by omega
              have HSe := Lib.hid (show Seen n.kind n.text (o + 1) n.kids n.kids.length by rw [← hkk]; exact HS.out)
              clear hkk
              go_wp2_with fail
              go_ret
              exact ⟨ret_bool (by rw [hres.out]; exact HSe.out.all.symm), bthen (one_al _ _) HB.out⟩
      · rw [hop] at HRest
        clear hop
        by_cases hbig : 24 < (o : Int) + 1
        · have hres := Lib.hid (show (decide ((o + 1) ≤ 24) && rightNs n.kind n.text (o + 1) 0 n.kids) = false by simp; intro h; omega)
          go_wp2_with fail
          go_ret
          exact ⟨ret_bool (by rw [HRest.out]; exact hres.out.symm), bthen (one_al _ _) HB0.out⟩
        · have hres := Lib.hid (show rightN o n = rightNs n.kind n.text (o + 1) 0 n.kids by rw [HRest.out]; simp; intro h; omega)
          have HO := Lib.hid (show (o + 1) ≤ 24 by omega)
          go_wp2_with fail
          clear b0 b1 b2 b3 b4 b5 b6 b7 b8 b9
          go_loopw [41] (fun i wr => ∃ k, k ≤ n.kids.length ∧ i = .int .i64 (k : Int) ∧ Seen n.kind n.text (o + 1) n.kids k ∧ Below (w.alloc (boxN n A c B d K e)).heap.size (w.alloc (boxN n A c B d K e)) wr) (fun i _ => n.kids.length - (intOf i).toNat)
          case atStart => exact ⟨0, Nat.zero_le _, rfl, fun j _ h => absurd h (Nat.not_lt_zero j), HB0.out⟩
          case round =>
            obtain ⟨k, hk, rfl, hS, hB⟩ := hrel
            have HS := Lib.hid hS
            have HB := Lib.hid hB
            clear hS hB
            by_cases hlt : k < n.kids.length
            · have hlA : (k : Int) < (n.kids.length : Int) := by omega
              have h00 : (0 : Int) ≤ (k : Int) := by omega
              have HW := Lib.hid (fun W hv => print_wrapped n k hlt (valN n A c B d K e) ok W hv)
              have HI := Lib.hid (fun (W : World) (vv : Value) (q : Nat) (qi : Int) (hq : qi = (q : Int)) (hv : RdN ok W vv n.kids[k]) (hq24 : q ≤ 24) => hq ▸ Hih.out (SizeOf.sizeOf n.kids[k]) (Nat.lt_of_lt_of_le (N.sz_kid hlt) Hm.out) n.kids[k] vv ok W q hv (Nat.le_refl _) hq24)
              have HSt := Lib.hid (fun h1 h2 => HS.out.step hlt h1 h2)
              have HNo := Lib.hid (fun h => seen_no (k := n.kind) (t := n.text) (o := (o + 1)) hlt h)
              obtain ⟨g, off, A', c', B', d', K', e', rfl, _, hk', k0, k1, k2, k3, k4, k5, k6, k7, k8, k9⟩ := (HL.out.below (bthen (one_al _ _) HB.out)).elem k hlt
              unfold wrapS at HW
              generalize n.kids[k] = Y at *
              have HK := Lib.hid hk'
              clear hk'
              obtain ⟨b0, b1, b2, b3, b4, b5, b6, b7, b8, b9⟩ := box10 HB.out
              have z0 := fun X => bcell (one_al wr X) b0
              have z1 := fun X => bcell (one_al wr X) b1
              have z2 := fun X => bcell (one_al wr X) b2
              have z3 := fun X => bcell (one_al wr X) b3
              have z4 := fun X => bcell (one_al wr X) b4
              have z5 := fun X => bcell (one_al wr X) b5
              have z6 := fun X => bcell (one_al wr X) b6
              have z7 := fun X => bcell (one_al wr X) b7
              have z8 := fun X => bcell (one_al wr X) b8
              have z9 := fun X => bcell (one_al wr X) b9
              go_upto_region 16 with fail
              clear b0 b1 b2 b3 b4 b5 b6 b7 b8 b9 k0 k1 k2 k3 k4 k5 k6 k7 k8 k9
              go_cut [68] (fun t68 wx => t68 = .bool (innerB n.kind n.text (bindingS Y) k) ∧ Below (wr.alloc (boxN Y A' c' B' d' K' e')).heap.size (wr.alloc (boxN Y A' c' B' d' K' e')) wx)
              case first =>
                cases c21 : (n.kind == 21)
                · cases ce : exprK n.kind
                  · have HCE := Lib.hid ce
                    clear ce
                    go_wp2_with fail
                    refine (print_expression n.kind _).mono ?_
                    rintro e1 w1 ⟨rfl, rfl⟩
                    rw [HCE.out]
                    go_wp2_with fail
                    go_meet
                    exact ⟨by unfold innerB; rw [c21, HCE.out]; rfl, Below.refl _ _⟩
                  · have HCE := Lib.hid ce
                    clear ce
                    cases c19 : (n.kind != 19)
                    · go_wp2_with fail
                      refine (print_expression n.kind _).mono ?_
                      rintro e1 w1 ⟨rfl, rfl⟩
                      rw [HCE.out]
                      go_wp2_with fail
                      go_meet
                      exact ⟨by unfold innerB; rw [c21, HCE.out, c19]; rfl, Below.refl _ _⟩
                    · go_wp2_with fail
                      refine (print_expression n.kind _).mono ?_
                      rintro e1 w1 ⟨rfl, rfl⟩
                      rw [HCE.out]
                      go_wp2_with fail
                      refine (HW.out _ (HP.out.below (bthen (bthen (one_al _ _) HB.out) (one_al _ _)))).mono ?_
                      rintro e1 w1 ⟨rfl, hb⟩
                      have HB1 := Lib.hid hb
                      clear hb
                      go_wp2_with fail
                      go_meet
                      exact ⟨by unfold innerB; rw [c21, HCE.out, c19]; rfl, HB1.out⟩
                · cases c1 : ((k : Int) == 1)
                  · cases ce : exprK n.kind
                    · have HCE := Lib.hid ce
                      clear ce
                      go_wp2_with fail
                      refine (print_expression n.kind _).mono ?_
                      rintro e1 w1 ⟨rfl, rfl⟩
                      rw [HCE.out]
                      go_wp2_with fail
                      go_meet
                      exact ⟨by unfold innerB; rw [c21, c1, HCE.out]; rfl, Below.refl _ _⟩
                    · have HCE := Lib.hid ce
                      clear ce
                      cases c19 : (n.kind != 19)
                      · go_wp2_with fail
                        refine (print_expression n.kind _).mono ?_
                        rintro e1 w1 ⟨rfl, rfl⟩
                        rw [HCE.out]
                        go_wp2_with fail
                        go_meet
                        exact ⟨by unfold innerB; rw [c21, c1, HCE.out, c19]; rfl, Below.refl _ _⟩
                      · go_wp2_with fail
                        refine (print_expression n.kind _).mono ?_
                        rintro e1 w1 ⟨rfl, rfl⟩
                        rw [HCE.out]
                        go_wp2_with fail
                        refine (HW.out _ (HP.out.below (bthen (bthen (one_al _ _) HB.out) (one_al _ _)))).mono ?_
                        rintro e1 w1 ⟨rfl, hb⟩
                        have HB1 := Lib.hid hb
                        clear hb
                        go_wp2_with fail
                        go_meet
                        exact ⟨by unfold innerB; rw [c21, c1, HCE.out, c19]; rfl, HB1.out⟩
                  · go_wp2_with fail
                    go_meet
                    exact ⟨by unfold innerB; rw [c21, c1]; rfl, Below.refl _ _⟩
              case rest =>
                obtain ⟨rfl, hB1⟩ := hcut
                have HBY := Lib.hid hB1
                obtain ⟨y0, y1, y2, y3, y4, y5, y6, y7, y8, y9⟩ := box10 hB1
                have hik := innerK_B n.kind n.text (bindingS Y) k
                clear hB1
                generalize innerB n.kind n.text (bindingS Y) k = ib at *
                cases ib with
                | false =>
                  rw [if_neg (by decide)] at hik
                  rw [hik] at HSt HNo
                  clear hik
                  go_wp2_with fail
                  refine (HI.out _ _ (o + 1) _ rfl (HK.out.rd.below (bthen (one_al _ _) HBY.out)) HO.out).mono ?_
                  rintro e1 w1 ⟨rfl, hb⟩
                  have HB1 := Lib.hid (bthen (bthen (bthen HB.out (one_al _ _)) HBY.out) hb)
                  clear hb
                  cases hr : rightN (o + 1) Y with
                  | false =>
                    have HR := Lib.hid hr
                    clear hr
                    go_wp2_with fail
                    go_ret
                    exact ⟨ret_bool (by rw [hres.out]; exact (HNo.out (by rw [Nat.add_zero, HR.out]; simp)).symm), bthen (one_al _ _) HB1.out⟩
                  | true =>
                    have HR := Lib.hid hr
                    clear hr
                    go_wp2_with fail
                    exact ⟨⟨k + 1, by omega, by go_num, HSt.out (by rw [Nat.add_zero]; simpa using HO.out) (by rw [Nat.add_zero]; exact HR.out), HB1.out⟩, by simp [intOf]; omega⟩
                | true =>
                  rw [if_pos rfl] at hik
                  rw [hik] at HSt HNo
                  clear hik
                  by_cases hb2 : 24 < (o : Int) + 1 + 1
                  · have HBig := Lib.hid hb2
                    go_wp2_with fail
                    go_ret
                    exact ⟨ret_bool (by rw [hres.out]; exact (HNo.out (by have := HBig.out; simp; omega)).symm), bthen (one_al _ _) (bthen (bthen HB.out (one_al _ _)) HBY.out)⟩
                  · have HBig := Lib.hid hb2
                    go_wp2_with fail
                    refine (HI.out _ _ ((o + 1) + 1) _ rfl (HK.out.rd.below (bthen (one_al _ _) HBY.out)) (by have := HBig.out; omega)).mono ?_
                    rintro e1 w1 ⟨rfl, hb⟩
                    have HB1 := Lib.hid (bthen (bthen (bthen HB.out (one_al _ _)) HBY.out) hb)
                    clear hb
                    cases hr : rightN ((o + 1) + 1) Y with
                    | false =>
                      have HR := Lib.hid hr
                      clear hr
                      go_wp2_with fail
                      go_ret
                      exact ⟨ret_bool (by rw [hres.out]; exact (HNo.out (by rw [HR.out]; simp)).symm), bthen (one_al _ _) HB1.out⟩
                    | true =>
                      have HR := Lib.hid hr
                      clear hr
                      go_wp2_with fail
                      exact ⟨⟨k + 1, by omega, by go_num, HSt.out (by have := HBig.out; simp; omega) HR.out, HB1.out⟩, by simp [intOf]; omega⟩
            · have hlA : ¬ (k : Int) < (n.kids.length : Int) := by omega
              have hkk : k = n.kids.length := by omega
              have HSe := Lib.hid (show Seen n.kind n.text (o + 1) n.kids n.kids.length by rw [← hkk]; exact HS.out)
              clear hkk
              go_wp2_with fail
              go_ret
              exact ⟨ret_bool (by rw [hres.out]; exact HSe.out.all.symm), bthen (one_al _ _) HB.out⟩
      · rw [hop] at HRest
        clear hop
        by_cases hbig : 24 < (o : Int) + 1
        · have hres := Lib.hid (show (decide ((o + 1) ≤ 24) && rightNs n.kind n.text (o + 1) 0 n.kids) = false by simp; intro h; omega)
          go_wp2_with fail
          go_ret
          exact ⟨ret_bool (by rw [HRest.out]; exact hres.out.symm), bthen (one_al _ _) HB0.out⟩
        · have hres := Lib.hid (show rightN o n = rightNs n.kind n.text (o + 1) 0 n.kids by rw [HRest.out]; simp; intro h; omega)
          have HO := Lib.hid (show (o + 1) ≤ 24 by omega)
          go_wp2_with fail
          clear b0 b1 b2 b3 b4 b5 b6 b7 b8 b9
          go_loopw [41] (fun i wr => ∃ k, k ≤ n.kids.length ∧ i = .int .i64 (k : Int) ∧ Seen n.kind n.text (o + 1) n.kids k ∧ Below (w.alloc (boxN n A c B d K e)).heap.size (w.alloc (boxN n A c B d K e)) wr) (fun i _ => n.kids.length - (intOf i).toNat)
          case atStart => exact ⟨0, Nat.zero_le _, rfl, fun j _ h => absurd h (Nat.not_lt_zero j), HB0.out⟩
          case round =>
            obtain ⟨k, hk, rfl, hS, hB⟩ := hrel
            have HS := Lib.hid hS
            have HB := Lib.hid hB
            clear hS hB
            by_cases hlt : k < n.kids.length
            · have hlA : (k : Int) < (n.kids.length : Int) := by omega
              have h00 : (0 : Int) ≤ (k : Int) := by omega
              have HW := Lib.hid (fun W hv => print_wrapped n k hlt (valN n A c B d K e) ok W hv)
              have HI := Lib.hid (fun (W : World) (vv : Value) (q : Nat) (qi : Int) (hq : qi = (q : Int)) (hv : RdN ok W vv n.kids[k]) (hq24 : q ≤ 24) => hq ▸ Hih.out (SizeOf.sizeOf n.kids[k]) (Nat.lt_of_lt_of_le (N.sz_kid hlt) Hm.out) n.kids[k] vv ok W q hv (Nat.le_refl _) hq24)
              have HSt := Lib.hid (fun h1 h2 => HS.out.step hlt h1 h2)
              have HNo := Lib.hid (fun h => seen_no (k := n.kind) (t := n.text) (o := (o + 1)) hlt h)
              obtain ⟨g, off, A', c', B', d', K', e', rfl, _, hk', k0, k1, k2, k3, k4, k5, k6, k7, k8, k9⟩ := (HL.out.below (bthen (one_al _ _) HB.out)).elem k hlt
              unfold wrapS at HW
              generalize n.kids[k] = Y at *
              have HK := Lib.hid hk'
              clear hk'
              obtain ⟨b0, b1, b2, b3, b4, b5, b6, b7, b8, b9⟩ := box10 HB.out
              have z0 := fun X => bcell (one_al wr X) b0
              have z1 := fun X => bcell (one_al wr X) b1
              have z2 := fun X => bcell (one_al wr X) b2
              have z3 := fun X => bcell (one_al wr X) b3
              have z4 := fun X => bcell (one_al wr X) b4
              have z5 := fun X => bcell (one_al wr X) b5
              have z6 := fun X => bcell (one_al wr X) b6
              have z7 := fun X => bcell (one_al wr X) b7
              have z8 := fun X => bcell (one_al wr X) b8
              have z9 := fun X => bcell (one_al wr X) b9
              go_upto_region 16 with fail
              clear b0 b1 b2 b3 b4 b5 b6 b7 b8 b9 k0 k1 k2 k3 k4 k5 k6 k7 k8 k9
              go_cut [68] (fun t68 wx => t68 = .bool (innerB n.kind n.text (bindingS Y) k) ∧ Below (wr.alloc (boxN Y A' c' B' d' K' e')).heap.size (wr.alloc (boxN Y A' c' B' d' K' e')) wx)
              case first =>
                cases c21 : (n.kind == 21)
                · cases ce : exprK n.kind
                  · have HCE := Lib.hid ce
                    clear ce
                    go_wp2_with fail
                    refine (print_expression n.kind _).mono ?_
                    rintro e1 w1 ⟨rfl, rfl⟩
                    rw [HCE.out]
                    go_wp2_with fail
                    go_meet
                    exact ⟨by unfold innerB; rw [c21, HCE.out]; rfl, Below.refl _ _⟩
                  · have HCE := Lib.hid ce
                    clear ce
                    cases c19 : (n.kind != 19)
                    · go_wp2_with fail
                      refine (print_expression n.kind _).mono ?_
                      rintro e1 w1 ⟨rfl, rfl⟩
                      rw [HCE.out]
                      go_wp2_with fail
                      go_meet
                      exact ⟨by unfold innerB; rw [c21, HCE.out, c19]; rfl, Below.refl _ _⟩
                    · go_wp2_with fail
                      refine (print_expression n.kind _).mono ?_
                      rintro e1 w1 ⟨rfl, rfl⟩
                      rw [HCE.out]
                      go_wp2_with fail
                      refine (HW.out _ (HP.out.below (bthen (bthen (one_al _ _) HB.out) (one_al _ _)))).mono ?_
                      rintro e1 w1 ⟨rfl, hb⟩
                      have HB1 := Lib.hid hb
                      clear hb
                      go_wp2_with fail
                      go_meet
                      exact ⟨by unfold innerB; rw [c21, HCE.out, c19]; rfl, HB1.out⟩
                · cases c1 : ((k : Int) == 1)
                  · cases ce : exprK n.kind
                    · have HCE := Lib.hid ce
                      clear ce
                      go_wp2_with fail
                      refine (print_expression n.kind _).mono ?_
                      rintro e1 w1 ⟨rfl, rfl⟩
                      rw [HCE.out]
                      go_wp2_with fail
                      go_meet
                      exact ⟨by unfold innerB; rw [c21, c1, HCE.out]; rfl, Below.refl _ _⟩
                    · have HCE := Lib.hid ce
                      clear ce
                      cases c19 : (n.kind != 19)
                      · go_wp2_with fail
                        refine (print_expression n.kind _).mono ?_
                        rintro e1 w1 ⟨rfl, rfl⟩
                        rw [HCE.out]
                        go_wp2_with fail
                        go_meet
                        exact ⟨by unfold innerB; rw [c21, c1, HCE.out, c19]; rfl, Below.refl _ _⟩
                      · go_wp2_with fail
                        refine (print_expression n.kind _).mono ?_
                        rintro e1 w1 ⟨rfl, rfl⟩
                        rw [HCE.out]
                        go_wp2_with fail
                        refine (HW.out _ (HP.out.below (bthen (bthen (one_al _ _) HB.out) (one_al _ _)))).mono ?_
                        rintro e1 w1 ⟨rfl, hb⟩
                        have HB1 := Lib.hid hb
                        clear hb
                        go_wp2_with fail
                        go_meet
                        exact ⟨by unfold innerB; rw [c21, c1, HCE.out, c19]; rfl, HB1.out⟩
                  · go_wp2_with fail
                    go_meet
                    exact ⟨by unfold innerB; rw [c21, c1]; rfl, Below.refl _ _⟩
              case rest =>
                obtain ⟨rfl, hB1⟩ := hcut
                have HBY := Lib.hid hB1
                obtain ⟨y0, y1, y2, y3, y4, y5, y6, y7, y8, y9⟩ := box10 hB1
                have hik := innerK_B n.kind n.text (bindingS Y) k
                clear hB1
                generalize innerB n.kind n.text (bindingS Y) k = ib at *
                cases ib with
                | false =>
                  rw [if_neg (by decide)] at hik
                  rw [hik] at HSt HNo
                  clear hik
                  go_wp2_with fail
                  refine (HI.out _ _ (o + 1) _ rfl (HK.out.rd.below (bthen (one_al _ _) HBY.out)) HO.out).mono ?_
                  rintro e1 w1 ⟨rfl, hb⟩
                  have HB1 := Lib.hid (bthen (bthen (bthen HB.out (one_al _ _)) HBY.out) hb)
                  clear hb
                  cases hr : rightN (o + 1) Y with
                  | false =>
                    have HR := Lib.hid hr
                    clear hr
                    go_wp2_with fail
                    go_ret
                    exact ⟨ret_bool (by rw [hres.out]; exact (HNo.out (by rw [Nat.add_zero, HR.out]; simp)).symm), bthen (one_al _ _) HB1.out⟩
                  | true =>
                    have HR := Lib.hid hr
                    clear hr
                    go_wp2_with fail
                    exact ⟨⟨k + 1, by omega, by go_num, HSt.out (by rw [Nat.add_zero]; simpa using HO.out) (by rw [Nat.add_zero]; exact HR.out), HB1.out⟩, by simp [intOf]; omega⟩
                | true =>
                  rw [if_pos rfl] at hik
                  rw [hik] at HSt HNo
                  clear hik
                  by_cases hb2 : 24 < (o : Int) + 1 + 1
                  · have HBig := Lib.hid hb2
                    go_wp2_with fail
                    go_ret
                    exact ⟨ret_bool (by rw [hres.out]; exact (HNo.out (by have := HBig.out; simp; omega)).symm), bthen (one_al _ _) (bthen (bthen HB.out (one_al _ _)) HBY.out)⟩
                  · have HBig := Lib.hid hb2
                    go_wp2_with fail
                    refine (HI.out _ _ ((o + 1) + 1) _ rfl (HK.out.rd.below (bthen (one_al _ _) HBY.out)) (by have := HBig.out; omega)).mono ?_
                    rintro e1 w1 ⟨rfl, hb⟩
                    have HB1 := Lib.hid (bthen (bthen (bthen HB.out (one_al _ _)) HBY.out) hb)
                    clear hb
                    cases hr : rightN ((o + 1) + 1) Y with
                    | false =>
                      have HR := Lib.hid hr
                      clear hr
                      go_wp2_with fail
                      go_ret
                      exact ⟨ret_bool (by rw [hres.out]; exact (HNo.out (by rw [HR.out]; simp)).symm), bthen (one_al _ _) HB1.out⟩
                    | true =>
                      have HR := Lib.hid hr
                      clear hr
                      go_wp2_with fail
                      exact ⟨⟨k + 1, by omega, by go_num, HSt.out (by have := HBig.out; simp; omega) HR.out, HB1.out⟩, by simp [intOf]; omega⟩
            · have hlA : ¬ (k : Int) < (n.kids.length : Int) := by omega
              have hkk : k = n.kids.length := by omega
              have HSe := Lib.hid (show Seen n.kind n.text (o + 1) n.kids n.kids.length by rw [← hkk]; exact HS.out)
              clear hkk
              go_wp2_with fail
              go_ret
              exact ⟨ret_bool (by rw [hres.out]; exact HSe.out.all.symm), bthen (one_al _ _) HB.out⟩
      · rw [hop] at HRest
        clear hop
        by_cases hbig : 24 < (o : Int) + 1
        · have hres := Lib.hid (show (decide ((o + 1) ≤ 24) && rightNs n.kind n.text (o + 1) 0 n.kids) = false by simp; intro h; omega)
          go_wp2_with fail
          go_ret
          exact ⟨ret_bool (by rw [HRest.out]; exact hres.out.symm), bthen (one_al _ _) HB0.out⟩
        · have hres := Lib.hid (show rightN o n = rightNs n.kind n.text (o + 1) 0 n.kids by rw [HRest.out]; simp; intro h; omega)
          have HO := Lib.hid (show (o + 1) ≤ 24 by omega)
          go_wp2_with fail
          clear b0 b1 b2 b3 b4 b5 b6 b7 b8 b9
          go_loopw [41] (fun i wr => ∃ k, k ≤ n.kids.length ∧ i = .int .i64 (k : Int) ∧ Seen n.kind n.text (o + 1) n.kids k ∧ Below (w.alloc (boxN n A c B d K e)).heap.size (w.alloc (boxN n A c B d K e)) wr) (fun i _ => n.kids.length - (intOf i).toNat)
          case atStart => exact ⟨0, Nat.zero_le _, rfl, fun j _ h => absurd h (Nat.not_lt_zero j), HB0.out⟩
          case round =>
            obtain ⟨k, hk, rfl, hS, hB⟩ := hrel
            have HS := Lib.hid hS
            have HB := Lib.hid hB
            clear hS hB
            by_cases hlt : k < n.kids.length
            · have hlA : (k : Int) < (n.kids.length : Int) := by omega
              have h00 : (0 : Int) ≤ (k : Int) := by omega
              have HW := Lib.hid (fun W hv => print_wrapped n k hlt (valN n A c B d K e) ok W hv)
              have HI := Lib.hid (fun (W : World) (vv : Value) (q : Nat) (qi : Int) (hq : qi = (q : Int)) (hv : RdN ok W vv n.kids[k]) (hq24 : q ≤ 24) => hq ▸ Hih.out (SizeOf.sizeOf n.kids[k]) (Nat.lt_of_lt_of_le (N.sz_kid hlt) Hm.out) n.kids[k] vv ok W q hv (Nat.le_refl _) hq24)
              have HSt := Lib.hid (fun h1 h2 => HS.out.step hlt h1 h2)
              have HNo := Lib.hid (fun h => seen_no (k := n.kind) (t := n.text) (o := (o + 1)) hlt h)
              obtain ⟨g, off, A', c', B', d', K', e', rfl, _, hk', k0, k1, k2, k3, k4, k5, k6, k7, k8, k9⟩ := (HL.out.below (bthen (one_al _ _) HB.out)).elem k hlt
              unfold wrapS at HW
              generalize n.kids[k] = Y at *
              have HK := Lib.hid hk'
              clear hk'
              obtain ⟨b0, b1, b2, b3, b4, b5, b6, b7, b8, b9⟩ := box10 HB.out
              have z0 := fun X => bcell (one_al wr X) b0
              have z1 := fun X => bcell (one_al wr X) b1
              have z2 := fun X => bcell (one_al wr X) b2
              have z3 := fun X => bcell (one_al wr X) b3
              have z4 := fun X => bcell (one_al wr X) b4
              have z5 := fun X => bcell (one_al wr X) b5
              have z6 := fun X => bcell (one_al wr X) b6
              have z7 := fun X => bcell (one_al wr X) b7
              have z8 := fun X => bcell (one_al wr X) b8
              have z9 := fun X => bcell (one_al wr X) b9
              go_upto_region 16 with fail
              clear b0 b1 b2 b3 b4 b5 b6 b7 b8 b9 k0 k1 k2 k3 k4 k5 k6 k7 k8 k9
              go_cut [68] (fun t68 wx => t68 = .bool (innerB n.kind n.text (bindingS Y) k) ∧ Below (wr.alloc (boxN Y A' c' B' d' K' e')).heap.size (wr.alloc (boxN Y A' c' B' d' K' e')) wx)
              case first =>
                cases c21 : (n.kind == 21)
                · cases ce : exprK n.kind
                  · have HCE := Lib.hid ce
                    clear ce
                    go_wp2_with fail
                    refine (print_expression n.kind _).mono ?_
                    rintro e1 w1 ⟨rfl, rfl⟩
                    rw [HCE.out]
                    go_wp2_with fail
                    go_meet
                    exact ⟨by unfold innerB; rw [c21, HCE.out]; rfl, Below.refl _ _⟩
                  · have HCE := Lib.hid ce
                    clear ce
                    cases c19 : (n.kind != 19)
                    · go_wp2_with fail
                      refine (print_expression n.kind _).mono ?_
                      rintro e1 w1 ⟨rfl, rfl⟩
                      rw [HCE.out]
                      go_wp2_with fail
                      go_meet
                      exact ⟨by unfold innerB; rw [c21, HCE.out, c19]; rfl, Below.refl _ _⟩
                    · go_wp2_with fail
                      refine (print_expression n.kind _).mono ?_
                      rintro e1 w1 ⟨rfl, rfl⟩
                      rw [HCE.out]
                      go_wp2_with fail
                      refine (HW.out _ (HP.out.below (bthen (bthen (one_al _ _) HB.out) (one_al _ _)))).mono ?_
                      rintro e1 w1 ⟨rfl, hb⟩
                      have HB1 := Lib.hid hb
                      clear hb
                      go_wp2_with fail
                      go_meet
                      exact ⟨by unfold innerB; rw [c21, HCE.out, c19]; rfl, HB1.out⟩
                · cases c1 : ((k : Int) == 1)
                  · cases ce : exprK n.kind
                    · have HCE := Lib.hid ce
                      clear ce
                      go_wp2_with fail
                      refine (print_expression n.kind _).mono ?_
                      rintro e1 w1 ⟨rfl, rfl⟩
                      rw [HCE.out]
                      go_wp2_with fail
                      go_meet
                      exact ⟨by unfold innerB; rw [c21, c1, HCE.out]; rfl, Below.refl _ _⟩
                    · have HCE := Lib.hid ce
                      clear ce
                      cases c19 : (n.kind != 19)
                      · go_wp2_with fail
                        refine (print_expression n.kind _).mono ?_
                        rintro e1 w1 ⟨rfl, rfl⟩
                        rw [HCE.out]
                        go_wp2_with fail
                        go_meet
                        exact ⟨by unfold innerB; rw [c21, c1, HCE.out, c19]; rfl, Below.refl _ _⟩
                      · go_wp2_with fail
                        refine (print_expression n.kind _).mono ?_
                        rintro e1 w1 ⟨rfl, rfl⟩
                        rw [HCE.out]
                        go_wp2_with fail
                        refine (HW.out _ (HP.out.below (bthen (bthen (one_al _ _) HB.out) (one_al _ _)))).mono ?_
                        rintro e1 w1 ⟨rfl, hb⟩
                        have HB1 := Lib.hid hb
                        clear hb
                        go_wp2_with fail
                        go_meet
                        exact ⟨by unfold innerB; rw [c21, c1, HCE.out, c19]; rfl, HB1.out⟩
                  · go_wp2_with fail
                    go_meet
                    exact ⟨by unfold innerB; rw [c21, c1]; rfl, Below.refl _ _⟩
              case rest =>
                obtain ⟨rfl, hB1⟩ := hcut
                have HBY := Lib.hid hB1
                obtain ⟨y0, y1, y2, y3, y4, y5, y6, y7, y8, y9⟩ := box10 hB1
                have hik := innerK_B n.kind n.text (bindingS Y) k
                clear hB1
                generalize innerB n.kind n.text (bindingS Y) k = ib at *
                cases ib with
                | false =>
                  rw [if_neg (by decide)] at hik
                  rw [hik] at HSt HNo
                  clear hik
                  go_wp2_with fail
                  refine (HI.out _ _ (o + 1) _ rfl (HK.out.rd.below (bthen (one_al _ _) HBY.out)) HO.out).mono ?_
                  rintro e1 w1 ⟨rfl, hb⟩
                  have HB1 := Lib.hid (bthen (bthen (bthen HB.out (one_al _ _)) HBY.out) hb)
                  clear hb
                  cases hr : rightN (o + 1) Y with
                  | false =>
                    have HR := Lib.hid hr
                    clear hr
                    go_wp2_with fail
                    go_ret
                    exact ⟨ret_bool (by rw [hres.out]; exact (HNo.out (by rw [Nat.add_zero, HR.out]; simp)).symm), bthen (one_al _ _) HB1.out⟩
                  | true =>
                    have HR := Lib.hid hr
                    clear hr
                    go_wp2_with fail
                    exact ⟨⟨k + 1, by omega, by go_num, HSt.out (by rw [Nat.add_zero]; simpa using HO.out) (by rw [Nat.add_zero]; exact HR.out), HB1.out⟩, by simp [intOf]; omega⟩
                | true =>
                  rw [if_pos rfl] at hik
                  rw [hik] at HSt HNo
                  clear hik
                  by_cases hb2 : 24 < (o : Int) + 1 + 1
                  · have HBig := Lib.hid hb2
                    go_wp2_with fail
                    go_ret
                    exact ⟨ret_bool (by rw [hres.out]; exact (HNo.out (by have := HBig.out; simp; omega)).symm), bthen (one_al _ _) (bthen (bthen HB.out (one_al _ _)) HBY.out)⟩
                  · have HBig := Lib.hid hb2
                    go_wp2_with fail
                    refine (HI.out _ _ ((o + 1) + 1) _ rfl (HK.out.rd.below (bthen (one_al _ _) HBY.out)) (by have := HBig.out; omega)).mono ?_
                    rintro e1 w1 ⟨rfl, hb⟩
                    have HB1 := Lib.hid (bthen (bthen (bthen HB.out (one_al _ _)) HBY.out) hb)
                    clear hb
                    cases hr : rightN ((o + 1) + 1) Y with
                    | false =>
                      have HR := Lib.hid hr
                      clear hr
                      go_wp2_with fail
                      go_ret
                      exact ⟨ret_bool (by rw [hres.out]; exact (HNo.out (by rw [HR.out]; simp)).symm), bthen (one_al _ _) HB1.out⟩
                    | true =>
                      have HR := Lib.hid hr
                      clear hr
                      go_wp2_with fail
                      exact ⟨⟨k + 1, by omega, by go_num, HSt.out (by have := HBig.out; simp; omega) HR.out, HB1.out⟩, by simp [intOf]; omega⟩
            · have hlA : ¬ (k : Int) < (n.kids.length : Int) := by omega
              have hkk : k = n.kids.length := by omega
              have HSe := Lib.hid (show Seen n.kind n.text (o + 1) n.kids n.kids.length by rw [← hkk]; exact HS.out)
              clear hkk
              go_wp2_with fail
              go_ret
              exact ⟨ret_bool (by rw [hres.out]; exact HSe.out.all.symm), bthen (one_al _ _) HB.out⟩
      · rw [hop] at HRest
        clear hop
        by_cases hbig : 24 < (o : Int)
        · exact absurd hbig (by omega)
        · have hres := Lib.hid (show rightN o n = rightNs n.kind n.text o 0 n.kids by rw [HRest.out]; simp; intro h; omega)
          have HO := Lib.hid (show o ≤ 24 by omega)
          go_wp2_with fail
          clear b0 b1 b2 b3 b4 b5 b6 b7 b8 b9
          go_loopw [41] (fun i wr => ∃ k, k ≤ n.kids.length ∧ i = .int .i64 (k : Int) ∧ Seen n.kind n.text o n.kids k ∧ Below (w.alloc (boxN n A c B d K e)).heap.size (w.alloc (boxN n A c B d K e)) wr) (fun i _ => n.kids.length - (intOf i).toNat)
          case atStart => exact ⟨0, Nat.zero_le _, rfl, fun j _ h => absurd h (Nat.not_lt_zero j), HB0.out⟩
          case round =>
            obtain ⟨k, hk, rfl, hS, hB⟩ := hrel
            have HS := Lib.hid hS
            have HB := Lib.hid hB
            clear hS hB
            by_cases hlt : k < n.kids.length
            · have hlA : (k : Int) < (n.kids.length : Int) := by omega
              have h00 : (0 : Int) ≤ (k : Int) := by omega
              have HW := Lib.hid (fun W hv => print_wrapped n k hlt (valN n A c B d K e) ok W hv)
              have HI := Lib.hid (fun (W : World) (vv : Value) (q : Nat) (qi : Int) (hq : qi = (q : Int)) (hv : RdN ok W vv n.kids[k]) (hq24 : q ≤ 24) => hq ▸ Hih.out (SizeOf.sizeOf n.kids[k]) (Nat.lt_of_lt_of_le (N.sz_kid hlt) Hm.out) n.kids[k] vv ok W q hv (Nat.le_refl _) hq24)
              have HSt := Lib.hid (fun h1 h2 => HS.out.step hlt h1 h2)
              have HNo := Lib.hid (fun h => seen_no (k := n.kind) (t := n.text) (o := o) hlt h)
              obtain ⟨g, off, A', c', B', d', K', e', rfl, _, hk', k0, k1, k2, k3, k4, k5, k6, k7, k8, k9⟩ := (HL.out.below (bthen (one_al _ _) HB.out)).elem k hlt
              unfold wrapS at HW
              generalize n.kids[k] = Y at *
              have HK := Lib.hid hk'
              clear hk'
              obtain ⟨b0, b1, b2, b3, b4, b5, b6, b7, b8, b9⟩ := box10 HB.out
              have z0 := fun X => bcell (one_al wr X) b0
              have z1 := fun X => bcell (one_al wr X) b1
              have z2 := fun X => bcell (one_al wr X) b2
              have z3 := fun X => bcell (one_al wr X) b3
              have z4 := fun X => bcell (one_al wr X) b4
              have z5 := fun X => bcell (one_al wr X) b5
              have z6 := fun X => bcell (one_al wr X) b6
              have z7 := fun X => bcell (one_al wr X) b7
              have z8 := fun X => bcell (one_al wr X) b8
              have z9 := fun X => bcell (one_al wr X) b9
              go_upto_region 16 with fail
              clear b0 b1 b2 b3 b4 b5 b6 b7 b8 b9 k0 k1 k2 k3 k4 k5 k6 k7 k8 k9
              go_cut [68] (fun t68 wx => t68 = .bool (innerB n.kind n.text (bindingS Y) k) ∧ Below (wr.alloc (boxN Y A' c' B' d' K' e')).heap.size (wr.alloc (boxN Y A' c' B' d' K' e')) wx)
              case first =>
                cases c21 : (n.kind == 21)
                · cases ce : exprK n.kind
                  · have HCE := Lib.hid ce
                    clear ce
                    go_wp2_with fail
                    refine (print_expression n.kind _).mono ?_
                    rintro e1 w1 ⟨rfl, rfl⟩
                    rw [HCE.out]
                    go_wp2_with fail
                    go_meet
                    exact ⟨by unfold innerB; rw [c21, HCE.out]; rfl, Below.refl _ _⟩
                  · have HCE := Lib.hid ce
                    clear ce
                    cases c19 : (n.kind != 19)
                    · go_wp2_with fail
                      refine (print_expression n.kind _).mono ?_
                      rintro e1 w1 ⟨rfl, rfl⟩
                      rw [HCE.out]
                      go_wp2_with fail
                      go_meet
                      exact ⟨by unfold innerB; rw [c21, HCE.out, c19]; rfl, Below.refl _ _⟩
                    · go_wp2_with fail
                      refine (print_expression n.kind _).mono ?_
                      rintro e1 w1 ⟨rfl, rfl⟩
                      rw [HCE.out]
                      go_wp2_with fail
                      refine (HW.out _ (HP.out.below (bthen (bthen (one_al _ _) HB.out) (one_al _ _)))).mono ?_
                      rintro e1 w1 ⟨rfl, hb⟩
                      have HB1 := Lib.hid hb
                      clear hb
                      go_wp2_with fail
                      go_meet
                      exact ⟨by unfold innerB; rw [c21, HCE.out, c19]; rfl, HB1.out⟩
                · cases c1 : ((k : Int) == 1)
                  · cases ce : exprK n.kind
                    · have HCE := Lib.hid ce
                      clear ce
                      go_wp2_with fail
                      refine (print_expression n.kind _).mono ?_
                      rintro e1 w1 ⟨rfl, rfl⟩
                      rw [HCE.out]
                      go_wp2_with fail
                      go_meet
                      exact ⟨by unfold innerB; rw [c21, c1, HCE.out]; rfl, Below.refl _ _⟩
                    · have HCE := Lib.hid ce
                      clear ce
                      cases c19 : (n.kind != 19)
                      · go_wp2_with fail
                        refine (print_expression n.kind _).mono ?_
                        rintro e1 w1 ⟨rfl, rfl⟩
                        rw [HCE.out]
                        go_wp2_with fail
                        go_meet
                        exact ⟨by unfold innerB; rw [c21, c1, HCE.out, c19]; rfl, Below.refl _ _⟩
                      · go_wp2_with fail
                        refine (print_expression n.kind _).mono ?_
                        rintro e1 w1 ⟨rfl, rfl⟩
                        rw [HCE.out]
                        go_wp2_with fail
                        refine (HW.out _ (HP.out.below (bthen (bthen (one_al _ _) HB.out) (one_al _ _)))).mono ?_
                        rintro e1 w1 ⟨rfl, hb⟩
                        have HB1 := Lib.hid hb
                        clear hb
                        go_wp2_with fail
                        go_meet
                        exact ⟨by unfold innerB; rw [c21, c1, HCE.out, c19]; rfl, HB1.out⟩
                  · go_wp2_with fail
                    go_meet
                    exact ⟨by unfold innerB; rw [c21, c1]; rfl, Below.refl _ _⟩
              case rest =>
                obtain ⟨rfl, hB1⟩ := hcut
                have HBY := Lib.hid hB1
                obtain ⟨y0, y1, y2, y3, y4, y5, y6, y7, y8, y9⟩ := box10 hB1
                have hik := innerK_B n.kind n.text (bindingS Y) k
                clear hB1
                generalize innerB n.kind n.text (bindingS Y) k = ib at *
                cases ib with
                | false =>
                  rw [if_neg (by decide)] at hik
                  rw [hik] at HSt HNo
                  clear hik
                  go_wp2_with fail
                  refine (HI.out _ _ o _ rfl (HK.out.rd.below (bthen (one_al _ _) HBY.out)) HO.out).mono ?_
                  rintro e1 w1 ⟨rfl, hb⟩
                  have HB1 := Lib.hid (bthen (bthen (bthen HB.out (one_al _ _)) HBY.out) hb)
                  clear hb
                  cases hr : rightN o Y with
                  | false =>
                    have HR := Lib.hid hr
                    clear hr
                    go_wp2_with fail
                    go_ret
                    exact ⟨ret_bool (by rw [hres.out]; exact (HNo.out (by rw [Nat.add_zero, HR.out]; simp)).symm), bthen (one_al _ _) HB1.out⟩
                  | true =>
                    have HR := Lib.hid hr
                    clear hr
                    go_wp2_with fail
                    exact ⟨⟨k + 1, by omega, by go_num, HSt.out (by rw [Nat.add_zero]; simpa using HO.out) (by rw [Nat.add_zero]; exact HR.out), HB1.out⟩, by simp [intOf]; omega⟩
                | true =>
                  rw [if_pos rfl] at hik
                  rw [hik] at HSt HNo
                  clear hik
                  by_cases hb2 : 24 < (o : Int) + 1
                  · have HBig := Lib.hid hb2
                    go_wp2_with fail
                    go_ret
                    exact ⟨ret_bool (by rw [hres.out]; exact (HNo.out (by have := HBig.out; simp; omega)).symm), bthen (one_al _ _) (bthen (bthen HB.out (one_al _ _)) HBY.out)⟩
                  · have HBig := Lib.hid hb2
                    go_wp2_with fail
                    refine (HI.out _ _ (o + 1) _ rfl (HK.out.rd.below (bthen (one_al _ _) HBY.out)) (by have := HBig.out; omega)).mono ?_
                    rintro e1 w1 ⟨rfl, hb⟩
                    have HB1 := Lib.hid (bthen (bthen (bthen HB.out (one_al _ _)) HBY.out) hb)
                    clear hb
                    cases hr : rightN (o + 1) Y with
                    | false =>
                      have HR := Lib.hid hr
                      clear hr
                      go_wp2_with fail
                      go_ret
                      exact ⟨ret_bool (by rw [hres.out]; exact (HNo.out (by rw [HR.out]; simp)).symm), bthen (one_al _ _) HB1.out⟩
                    | true =>
                      have HR := Lib.hid hr
                      clear hr
                      go_wp2_with fail
                      exact ⟨⟨k + 1, by omega, by go_num, HSt.out (by have := HBig.out; simp; omega) HR.out, HB1.out⟩, by simp [intOf]; omega⟩
            · have hlA : ¬ (k : Int) < (n.kids.length : Int) := by omega
              have hkk : k = n.kids.length := by omega
              have HSe := Lib.hid (show Seen n.kind n.text o n.kids n.kids.length by rw [← hkk]; exact HS.out)
              clear hkk
              go_wp2_with fail
              go_ret
              exact ⟨ret_bool (by rw [hres.out]; exact HSe.out.all.symm), bthen (one_al _ _) HB.out⟩
end Go.Proofs.YthlfeiiolafonaaDoor
