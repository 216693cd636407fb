/- Contracts of the reference's sign and blanks. -/
import Derived.Test.YtgnoiliaidfepaaDoorLexRef2
set_option linter.unusedVariables false
set_option linter.unusedSimpArgs false
namespace Go.Proofs.YtgnoiliaidfepaaDoor
open Go.RowKit Go.IntWalk

def signStrs : List ByteArray := [⟨#[61, 61]⟩, ⟨#[33, 61]⟩, ⟨#[60, 61]⟩, ⟨#[62, 61]⟩, ⟨#[38, 38]⟩, ⟨#[124, 124]⟩, ⟨#[40]⟩, ⟨#[41]⟩, ⟨#[123]⟩, ⟨#[125]⟩, ⟨#[91]⟩, ⟨#[93]⟩, ⟨#[44]⟩, ⟨#[59]⟩, ⟨#[58]⟩, ⟨#[46]⟩, ⟨#[61]⟩, ⟨#[60]⟩, ⟨#[62]⟩, ⟨#[43]⟩, ⟨#[45]⟩, ⟨#[42]⟩, ⟨#[47]⟩, ⟨#[37]⟩, ⟨#[33]⟩]
theorem ref_Signs (w : World) :
    Calls Tryd.prog 105 #[] w fun e w' => e = .returned (.slice (some ⟨w.heap.size, 0, none⟩) 25 25) ∧ Below w.heap.size w w' ∧ Strs w' (some ⟨w.heap.size, 0, none⟩) 25 signStrs := by
  go_enter Tryd.func105, Tryd.ntmps105
  go_wp2
  go_ret
  exact ⟨rfl, (Below.refl _ _).alloc (Nat.le_refl _) _, strs_lit w _ signStrs⟩

/-- the k-th sign stands at the text's head -/
def hits (l : List UInt8) (k : Nat) : Bool := l.take (sAt signStrs k).size == (sAt signStrs k).data.toList
theorem sign_hit (l : List UInt8) (k : Nat) (hk : k < 25) (h : hits l k = true) (hm : ∀ j, j < k → hits l j = false) : signS l = (sAt signStrs k).data.toList := by
  have e : ∀ j : Fin 6, (sAt signStrs j.val).data.toList = pairs.getD j.val [] ∧ (sAt signStrs j.val).size = 2 := by decide
  have e2 : ∀ j : Fin 19, (sAt signStrs (6 + j.val)).data.toList = [singles.getD j.val 0] ∧ (sAt signStrs (6 + j.val)).size = 1 := by decide
  simp only [hits, beq_iff_eq, beq_eq_false_iff_ne] at h hm
  unfold signS
  by_cases h6 : k < 6
  · have := e ⟨k, h6⟩
    simp only [] at this
    rw [this.2, this.1] at h
    rw [if_pos, h, this.1]
    rw [h, List.contains_iff_mem]
    have hp : ∀ j : Fin 6, pairs.getD j.val [] ∈ pairs := by decide
    exact hp ⟨k, h6⟩
  · have hno : pairs.contains (l.take 2) = false := by
      rw [Bool.eq_false_iff]
      intro hc
      rw [List.contains_iff_mem] at hc
      obtain ⟨j, hj, hje⟩ := List.mem_iff_getElem.1 hc
      have hj6 : j < 6 := hj
      have := e ⟨j, hj6⟩
      simp only [] at this
      refine hm j (by omega) ?_
      rw [this.2, this.1, ← hje]
      simp [List.getD_eq_getElem?_getD, List.getElem?_eq_getElem hj]
    have h19 : k - 6 < 19 := by omega
    have := e2 ⟨k - 6, h19⟩
    simp only [] at this
    rw [show 6 + (k - 6) = k by omega] at this
    rw [this.2, this.1] at h
    rw [if_neg (by simp [hno]; simpa using hno), if_pos, h, this.1]
    cases l with
    | nil => simp at h
    | cons c l =>
      simp at h
      have hp : ∀ j : Fin 19, singles.getD j.val 0 ∈ singles := by decide
      rw [List.headD_cons, h, List.contains_iff_mem]
      simpa using hp ⟨k - 6, h19⟩
theorem sign_miss (l : List UInt8) (hm : ∀ j, j < 25 → hits l j = false) : signS l = [] := by
  have e : ∀ j : Fin 6, (sAt signStrs j.val).data.toList = pairs.getD j.val [] ∧ (sAt signStrs j.val).size = 2 := by decide
  have e2 : ∀ j : Fin 19, (sAt signStrs (6 + j.val)).data.toList = [singles.getD j.val 0] ∧ (sAt signStrs (6 + j.val)).size = 1 := by decide
  simp only [hits, beq_eq_false_iff_ne] at hm
  have hno : pairs.contains (l.take 2) = false := by
    rw [Bool.eq_false_iff]
    intro hc
    rw [List.contains_iff_mem] at hc
    obtain ⟨j, hj, hje⟩ := List.mem_iff_getElem.1 hc
    have hj6 : j < 6 := hj
    have := e ⟨j, hj6⟩
    simp only [] at this
    refine hm j (by omega) ?_
    rw [this.2, this.1, ← hje]
    simp [List.getD_eq_getElem?_getD, List.getElem?_eq_getElem hj]
  have hno2 : singles.contains (l.headD 0) = true → l = [] := by
    intro hc
    cases l with
    | nil => rfl
    | cons c l =>
      exfalso
      rw [List.headD_cons, List.contains_iff_mem] at hc
      obtain ⟨j, hj, hje⟩ := List.mem_iff_getElem.1 hc
      have hj6 : j < 19 := hj
      have := e2 ⟨j, hj6⟩
      simp only [] at this
      refine hm (6 + j) (by omega) ?_
      rw [this.2, this.1, ← hje]
      simp [List.getD_eq_getElem?_getD, List.getElem?_eq_getElem hj]
  unfold signS
  rw [if_neg (by rw [hno]; simp)]
  split
  · rw [hno2 ‹_›]; rfl
  · rfl
theorem ext_take (s : ByteArray) (p n : Nat) (h : p + n ≤ s.size) : (s.extract p (p + n)).toList = (s.data.toList.drop p).take n := by
  rw [ByteArray.toList_eq, ByteArray.data_extract, Array.toList_extract, List.extract_eq_take_drop]
  congr 1
  omega
theorem sAt_small (k : Nat) : (sAt signStrs k).size ≤ 2 := by
  by_cases h : k < 25
  · have key : ∀ k : Fin 25, (sAt signStrs k.val).size ≤ 2 := by decide
    exact key ⟨k, h⟩
  · have : sAt signStrs k = ⟨#[]⟩ := by
      rw [sAt, List.getD_eq_getElem?_getD, List.getElem?_eq_none (by simpa [signStrs] using (by omega : 25 ≤ k))]; rfl
    rw [this]; decide

set_option maxRecDepth 20000 in
set_option maxHeartbeats 1000000 in
theorem ref_sign (s : ByteArray) (p : Nat) (w : World) (hs : s.size ≤ 1048576) (hp : p ≤ s.size) :
    Calls Tryd.prog 78 #[.string s, .int .i64 p] w fun e w' => e = .returned (.string ⟨(signS (s.data.toList.drop p)).toArray⟩) ∧ Below w.heap.size w w' := by
  go_enter Tryd.func78, Tryd.ntmps78
  go_wp2_with (go_at_call 105; refine (ref_Signs _).mono ?_; rintro e w1 ⟨rfl, hb1, hx1⟩)
  have HX := Lib.hid hx1
  have HB := Lib.hid hb1
  clear hx1 hb1
  go_loopw [6] (fun i wr => ∃ k : Nat, k ≤ 25 ∧ i = .int .i64 k ∧ (∀ j, j < k → hits (s.data.toList.drop p) j = false) ∧ Below w.heap.size w wr ∧ Strs wr (some ⟨w.heap.size, 0, none⟩) 25 signStrs) (fun i _ => 25 - (intOf i).toNat)
  case atStart => exact ⟨0, by omega, rfl, fun j hj => by omega, HB.out, HX.out⟩
  case round =>
    obtain ⟨k, hk, rfl, hm, hb, hx⟩ := hrel
    have Hm := Lib.hid hm
    have Hb := Lib.hid hb
    have Hx := Lib.hid hx
    clear hm hb hx
    by_cases hlt : k < 25
    · obtain ⟨ad, had, hc⟩ := Hx.out.at_ k hlt
      obtain rfl := Option.some.inj had
      rw [add_zero_off] at hc
      clear had
      have hsm := sAt_small k
      have hlen : s.data.toList.length = s.size := data_len s
      have hd := sign_hit (s.data.toList.drop p) k hlt
      have Hd := Lib.hid hd
      have Hdd : Hid (hits (s.data.toList.drop p) k = (List.take (sAt signStrs k).size (s.data.toList.drop p) == (sAt signStrs k).data.toList)) := rfl
      clear hd
      generalize sAt signStrs k = S at *
      have hwr : IntKind.i64.wrap ((s.size : Int) - (p : Int)) = (s.size : Int) - (p : Int) := by exact i64_in _ (by omega)
      by_cases hr : S.size ≤ s.size - p
      · have hr' : decide ((S.size : Int) ≤ (s.size : Int) - (p : Int)) = true := by simp; omega
        have hw2 : IntKind.i64.wrap ((p : Int) + (S.size : Int)) = (p : Int) + (S.size : Int) := i64_in _ (by omega)
        have hb1 : (0 : Int) ≤ (p : Int) := by omega
        have hb2 : (p : Int) ≤ (p : Int) + (S.size : Int) := by omega
        have hb3 : (p : Int) + (S.size : Int) ≤ (s.size : Int) := by omega
        have he := ext_take s p S.size (by omega)
        have He := Lib.hid he
        clear he
        go_wp2
        go_region_held3 (fun w' => w'.cell? ⟨w.heap.size, k, none⟩ = some (.string S) ∧ Below w.heap.size w w' ∧ Strs w' (some ⟨w.heap.size, 0, none⟩) 25 signStrs) ((exact ⟨hc, Hb.out.drew, Hx.out⟩)) (fail)
        all_goals go_wp2
        · have h : ((s.extract p ((p : Int) + (S.size : Int)).toNat).toList == S.toList) = true := by assumption
          rw [show ((p : Int) + (S.size : Int)).toNat = p + S.size by omega, He.out, ByteArray.toList_eq] at h
          go_ret
          rw [Hd.out (Hdd.out.trans h) Hm.out]
          exact ⟨rfl, Hb.out.drew⟩
        · have h : ((s.extract p ((p : Int) + (S.size : Int)).toNat).toList == S.toList) = false := by assumption
          rw [show ((p : Int) + (S.size : Int)).toNat = p + S.size by omega, He.out, ByteArray.toList_eq] at h
          have h' := Hdd.out.trans h
          exact ⟨⟨k + 1, by omega, by go_num, fun j hj => by
            by_cases e : j = k
            · rw [e]; exact h'
            · exact Hm.out j (by omega), Hb.out.drew, Hx.out⟩, by simp [intOf]; omega⟩
      · have hr' : decide ((S.size : Int) ≤ (s.size : Int) - (p : Int)) = false := by simp; omega
        go_wp2
        go_region
        all_goals go_wp2
        have h' : hits (s.data.toList.drop p) k = false := by
          rw [Hdd.out, beq_eq_false_iff_ne]
          intro e
          have e2 := congrArg List.length e
          rw [List.length_take, List.length_drop, hlen, data_len] at e2
          omega
        exact ⟨⟨k + 1, by omega, by go_num, fun j hj => by
          by_cases e : j = k
          · rw [e]; exact h'
          · exact Hm.out j (by omega), Hb.out.drew, Hx.out⟩, by simp [intOf]; omega⟩
    · go_wp2
      go_ret
      rw [sign_miss _ fun j hj => Hm.out j (by omega)]
      exact ⟨rfl, Hb.out⟩

set_option maxHeartbeats 1000000 in
theorem ref_blanks (s : ByteArray) (p : Nat) (w : World) (hs : s.size ≤ 1048576) (hp : p ≤ s.size) :
    Calls Tryd.prog 39 #[.string s, .int .i64 p] w fun e w' => e = .returned (.int .i64 ((s.size - (skip false (s.data.toList.drop p)).length : Nat) : Int)) ∧ w = w' := by
  go_enter Tryd.func39, Tryd.ntmps39
  go_wp2
  go_loopw [1] (fun i wr => wr = w ∧ ∃ k : Nat, k ≤ s.size ∧ i = .int .i64 k ∧ skip false (s.data.toList.drop p) = skip false (s.data.toList.drop k)) (fun i _ => s.size - (intOf i).toNat)
  case atStart => exact ⟨rfl, p, hp, rfl, rfl⟩
  case round =>
    obtain ⟨rfl, k, hk, rfl, hsk⟩ := hrel
    have Hsk := Lib.hid hsk
    clear hsk
    by_cases hlt : k < s.size
    · have hix := sB_index s k hlt
      have hd := sB_drop s k hlt
      generalize sB s k = c at hix hd
      have hc : c.toNat < 256 := c.toNat_lt
      have Hd := Lib.hid hd
      clear hd
      by_cases hb : isBlank c = true
      · have hv : c.toNat = 32 ∨ c.toNat = 9 ∨ c.toNat = 10 ∨ c.toNat = 13 := by simpa [isBlank] using hb
        have Hst : Hid (skip false (c :: List.drop (k + 1) s.data.toList) = skip false (List.drop (k + 1) s.data.toList)) := by
          show _ = _
          simp [skip, hb]
        clear hb
        rcases hv with q | q | q | q
        all_goals (
          rw [q] at hix
          go_wp2
          exact ⟨⟨trivial, k + 1, by omega, by go_num, by rw [Hsk.out, Hd.out, Hst.out]⟩, by simp [intOf]; omega⟩)
      have hnb : c.toNat ≠ 32 ∧ c.toNat ≠ 9 ∧ c.toNat ≠ 10 ∧ c.toNat ≠ 13 := by simpa [isBlank] using hb
      by_cases q : c.toNat = 47
      · rw [q] at hix
        by_cases h1 : k + 1 < s.size
        · have hix1 := sB_lit s ((k : Int) + 1) (k + 1) (by omega) h1
          have hd1 := sB_drop s (k + 1) h1
          generalize sB s (k + 1) = d at hix1 hd1
          have hdl : d.toNat < 256 := d.toNat_lt
          have Hd1 := Lib.hid hd1
          clear hd1
          by_cases q1 : d.toNat = 47
          · rw [q1] at hix1
            have Hst : Hid (skip false (List.drop p s.data.toList) = skip true (List.drop k s.data.toList)) := by
              show _ = _
              have e1 : d = 47 := UInt8.toNat_inj.1 q1
              rw [Hsk.out, Hd.out, skip, if_neg hb, if_pos ⟨q, by rw [Hd1.out, e1]; rfl⟩, skip, if_neg hnb.2.2.1]
            clear hb hnb
            go_wp2
            go_loopw [1] (fun i wi => wi = wr ∧ ∃ j : Nat, k ≤ j ∧ j ≤ s.size ∧ i = .int .i64 j ∧ skip false (s.data.toList.drop p) = skip true (s.data.toList.drop j)) (fun i _ => s.size - (intOf i).toNat)
            case atStart => exact ⟨rfl, k, Nat.le_refl _, hk, rfl, Hst.out⟩
            case round =>
              obtain ⟨rfl, j, hkj, hj, rfl, hsj⟩ := hrel
              have Hsj := Lib.hid hsj
              clear hsj
              by_cases hjs : j < s.size
              · have hixj := sB_index s j hjs
                have hdj := sB_drop s j hjs
                have hkk : j = k → sB s j = c := by
                  intro e
                  have hd2 := Hd.out
                  rw [← e, hdj] at hd2
                  injection hd2
                generalize sB s j = x at hixj hdj hkk
                have hx : x.toNat < 256 := x.toNat_lt
                have Hdj := Lib.hid hdj
                have Hkk := Lib.hid hkk
                clear hdj hkk
                by_cases qx : x.toNat = 10
                · rw [qx] at hixj
                  have hjk : j ≠ k := fun e => by
                    have := Hkk.out e
                    rw [this] at qx
                    omega
                  have hx10 : x = 10 := UInt8.toNat_inj.1 qx
                  go_wp2
                  exact ⟨⟨trivial, j, hj, rfl, by rw [Hsj.out, Hdj.out, hx10, skip_nl]⟩, by simp [intOf]; omega⟩
                · have qx' : ((x.toNat : Int) != 10) = true := by simp; omega
                  go_wp2
                  exact ⟨⟨trivial, j + 1, by omega, by omega, by go_num, by rw [Hsj.out, Hdj.out, skip, if_neg qx]⟩, by simp [intOf]; omega⟩
              · have hjk : j ≠ k := by omega
                go_wp2
                exact ⟨⟨trivial, j, hj, rfl, by rw [Hsj.out, drop_none s j (by omega)]; rfl⟩, by simp [intOf]; omega⟩
          · have q1' : ((d.toNat : Int) == 47) = false := by simp; omega
            have Hst : Hid (skip false (c :: List.drop (k + 1) s.data.toList) = c :: List.drop (k + 1) s.data.toList) := by
              show _ = _
              rw [skip, if_neg hb, if_neg]
              rintro ⟨-, e⟩
              rw [Hd1.out] at e
              injection e with e
              rw [e] at q1
              exact q1 rfl
            clear hb hnb
            go_wp2
            go_ret
            refine ⟨ret_int ?_, rfl⟩
            rw [Hsk.out, Hd.out, Hst.out]
            simp only [List.length_cons, List.length_drop, data_len]
            omega
        · have Hst : Hid (skip false (c :: List.drop (k + 1) s.data.toList) = c :: List.drop (k + 1) s.data.toList) := by
            show _ = _
            rw [drop_none s (k + 1) (by omega), skip, if_neg hb, if_neg]
            rintro ⟨-, e⟩
            cases e
          clear hb hnb
          go_wp2
          go_ret
          refine ⟨ret_int ?_, rfl⟩
          rw [Hsk.out, Hd.out, Hst.out]
          simp only [List.length_cons, List.length_drop, data_len]
          omega
      · have q1 : ((c.toNat : Int) == 47) = false := by simp; omega
        have q2 : ((c.toNat : Int) == 32) = false := by simp; omega
        have q3 : ((c.toNat : Int) == 9) = false := by simp; omega
        have q4 : ((c.toNat : Int) == 10) = false := by simp; omega
        have q5 : ((c.toNat : Int) == 13) = false := by simp; omega
        have Hst : Hid (skip false (c :: List.drop (k + 1) s.data.toList) = c :: List.drop (k + 1) s.data.toList) := by
          show _ = _
          rw [skip, if_neg hb, if_neg]
          exact fun h => q h.1
        clear hb hnb
        go_wp2
        go_ret
        refine ⟨ret_int ?_, rfl⟩
        rw [Hsk.out, Hd.out, Hst.out]
        simp only [List.length_cons, List.length_drop, data_len]
        omega
    · go_wp2
      go_ret
      refine ⟨ret_int ?_, rfl⟩
      rw [Hsk.out, drop_none s k (by omega)]
      simp [skip]
      omega
end Go.Proofs.YtgnoiliaidfepaaDoor
