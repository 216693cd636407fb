/- The walk of ParseStops. -/
import Derived.Test.YtlnhhffhmeekoaaGreatDoorCParseRep
set_option linter.unusedVariables false
set_option linter.unusedSimpArgs false
namespace Go.Proofs.YtlnhhffhmeekoaaGreatDoor
open Go.RowKit Go.IntWalk
theorem parse_ne0 (l : List UInt8) : (∃ p e, parseP l = (zeroN, p, e) ∧ e ≠ 0) ∨ ∃ n, parseP l = (n, 0, 0) := by
  unfold parseP readS
  rcases hA : allS l with ⟨p, e⟩ | T
  · exact .inl ⟨p, e, rfl, allS_ne0 hA⟩
  · simp only []
    cases hr : pFns (16 * T.length + 16) [] T with
    | out => exact .inr ⟨_, rfl⟩
    | bad e p => exact .inl ⟨p, e, rfl, fns_ne0 _ _ _ _ hr⟩
    | ok n r => exact .inr ⟨_, rfl⟩
section
variable {w : World}
set_option maxRecDepth 20000 in
set_option maxHeartbeats 1000000 in
/-- the source is no row of tokens -/
theorem law_PS_err (L R : List UInt8) (hL : L.length ≤ 1048576) (hW : LexW w) {p e : Nat} (hA : allS L = .error (p, e)) : Calls Tryz.prog 6 #[.string ⟨L.toArray⟩, .string ⟨R.toArray⟩] w fun e w' => e = .returned (.bool true) ∧ Below w.heap.size w w' := by
  have hne := allS_ne0 hA
  have hnz : ((e : Int) != 0) = true := by simp; omega
  have hP : parseP L = (zeroN, p, e) := parse_err hA _
  have HI := Lib.hid (law_shownP hW)
  have HL := Lib.hid (fun W (hW : LexW W) => lexErr ⟨L.toArray⟩ (by rw [ba_size]; omega) (show allS (⟨L.toArray⟩ : ByteArray).data.toList = _ from hA) W hW)
  have HX := Lib.hid (fun W (hW : LexW W) => x_Program (w := W) ⟨L.toArray⟩ (by rw [ba_size]; omega) hW)
  rw [show parseP (⟨L.toArray⟩ : ByteArray).data.toList = (zeroN, p, e) from hP] at HX
  have HW := Lib.hid hW
  clear hW hA hP hne hL
  go_enter Tryz.func6, Tryz.ntmps6
  go_wp2_with fail
  refine HI.out.mono ?_
  rintro e w1 ⟨rfl, hb⟩
  have HW1 := Lib.hid (HW.out.below hb)
  have HB1 := Lib.hid hb
  clear hb
  go_wp2_with fail
  refine (HL.out _ HW1.out).mono ?_
  rintro e w2 ⟨rfl, hb⟩
  have HW2 := Lib.hid (HW1.out.below hb)
  have HB2 := Lib.hid (bthen HB1.out hb)
  clear hb
  go_wp2_with fail
  refine (HX.out _ HW2.out).mono ?_
  rintro e w3 ⟨lv, rfl, hb, hO⟩
  obtain ⟨A, ca, rfl⟩ := hO.lvs
  have HB3 := Lib.hid (bthen HB2.out hb)
  clear hb hO
  go_wp2_with fail
  go_ret
  exact ⟨rfl, HB3.out.alloc HB3.out.size _⟩
set_option maxRecDepth 20000 in
set_option maxHeartbeats 1000000 in
/-- it is read, or has another fault -/
theorem law_PS_ok (L R : List UInt8) (hL : L.length ≤ 1048576) (hW : LexW w) {ts : List Tok} (hA : allS L = .ok ts) {n : N} {p f : Nat} (hP : parseP L = (n, p, f)) (hf : f ≠ 170) : Calls Tryz.prog 6 #[.string ⟨L.toArray⟩, .string ⟨R.toArray⟩] w fun e w' => e = .returned (.bool true) ∧ Below w.heap.size w w' := by
  have hnz : ((f : Int) != 170) = true := by simp; omega
  have HI := Lib.hid (law_shownP hW)
  have HL := Lib.hid (fun W (hW : LexW W) => lexOk ⟨L.toArray⟩ (by rw [ba_size]; omega) (show allS (⟨L.toArray⟩ : ByteArray).data.toList = _ from hA) W hW)
  have HX := Lib.hid (fun W (hW : LexW W) => x_Program (w := W) ⟨L.toArray⟩ (by rw [ba_size]; omega) hW)
  rw [show parseP (⟨L.toArray⟩ : ByteArray).data.toList = (n, p, f) from hP] at HX
  have HW := Lib.hid hW
  clear hW hA hP hf hL
  go_enter Tryz.func6, Tryz.ntmps6
  go_wp2_with fail
  refine HI.out.mono ?_
  rintro e w1 ⟨rfl, hb⟩
  have HW1 := Lib.hid (HW.out.below hb)
  have HB1 := Lib.hid hb
  clear hb
  go_wp2_with fail
  refine (HL.out _ HW1.out).mono ?_
  rintro e w2 ⟨gt, rfl, hb, -⟩
  have HW2 := Lib.hid (HW1.out.below hb)
  have HB2 := Lib.hid (bthen HB1.out hb)
  clear hb
  go_wp2_with fail
  refine (HX.out _ HW2.out).mono ?_
  rintro e w3 ⟨lv, rfl, hb, hO⟩
  obtain ⟨A, ca, rfl⟩ := hO.lvs
  have HB3 := Lib.hid (bthen HB2.out hb)
  clear hb hO
  go_wp2_with fail
  go_ret
  exact ⟨rfl, HB3.out.alloc HB3.out.size _⟩
theorem rise_lt {L : List UInt8} {ts : List Tok} (h : OkRun L 0 ts) : ∀ {j i : Nat}, j < i → i < ts.length → posAt ts j < posAt ts i := by
  intro j i hji hi
  induction i with
  | zero => omega
  | succ i ih =>
    have h1 := h.rise i hi
    by_cases h2 : j = i
    · subst h2; exact h1
    · exact Nat.lt_trans (ih (by omega) (by omega)) h1
set_option maxRecDepth 20000 in
set_option maxHeartbeats 2000000 in
/-- it can't go on at token i -/
theorem law_PS_stop (L R : List UInt8) (hL : L.length ≤ 1048576) (hR : R.length ≤ 1048576) (hW : LexW w) {ts : List Tok} (hA : allS L = .ok ts) {p : Nat} (hP : parseP L = (zeroN, p, 170)) : Calls Tryz.prog 6 #[.string ⟨L.toArray⟩, .string ⟨R.toArray⟩] w fun e w' => e = .returned (.bool true) ∧ Below w.heap.size w w' := by
  obtain ⟨i, hi, hpi, hlast, hmore⟩ := parse_stops hA hP
  obtain ⟨hle, hrun⟩ := allS_okrun hA
  have hpos : ∀ j, j < ts.length → (posAt ts j = p ↔ j = i) := fun j hj => by
    rw [hpi]
    refine ⟨fun h => ?_, fun h => by rw [h]⟩
    rcases Nat.lt_trichotomy j i with h1 | h1 | h1
    · have := rise_lt hrun h1 hi; omega
    · exact h1
    · have := rise_lt hrun h1 hj; omega
  have hge := hrun.ge
  obtain ⟨m, hm⟩ : ∃ m, ts.length = m + 1 := ⟨ts.length - 1, by omega⟩
  have hm8 : m ≤ 8192 := by have := (allS_tk hA).1.len; omega
  have hfl : (p = L.length) ↔ i = m := by
    constructor
    · intro h
      by_cases h2 : i + 1 < ts.length
      · have := (hmore h2).1; omega
      · omega
    · intro h; exact hlast (by omega)
  have HI := Lib.hid (law_shownP hW)
  have HL := Lib.hid (fun W (hW : LexW W) => lexOk ⟨L.toArray⟩ (by rw [ba_size]; omega) (show allS (⟨L.toArray⟩ : ByteArray).data.toList = _ from hA) W hW)
  have HX := Lib.hid (fun W (hW : LexW W) => x_Program (w := W) ⟨L.toArray⟩ (by rw [ba_size]; omega) hW)
  rw [show parseP (⟨L.toArray⟩ : ByteArray).data.toList = (zeroN, p, 170) from hP] at HX
  have HW := Lib.hid hW
  have Hpos := Lib.hid hpos
  have Hge := Lib.hid hge
  have Hmore := Lib.hid hmore
  have Hfl := Lib.hid hfl
  have Hm := Lib.hid hm
  have hpl : p ≤ L.length := by rw [hpi]; have := (hge i hi).2; omega
  clear hW hA hP hpos hge hmore hlast hrun hpi hfl
  rw [hm] at hi
  simp only [hm] at HL
  clear hm
  go_enter Tryz.func6, Tryz.ntmps6
  go_wp2_with fail
  refine HI.out.mono ?_
  rintro e w1 ⟨rfl, hb⟩
  have HW1 := Lib.hid (HW.out.below hb)
  have HB1 := Lib.hid hb
  clear hb
  go_wp2_with fail
  refine (HL.out _ HW1.out).mono ?_
  rintro e w2 ⟨gt, rfl, hb, hr⟩
  have HW2 := Lib.hid (HW1.out.below hb)
  have HB2 := Lib.hid (bthen HB1.out hb)
  have HR2 := Lib.hid hr.out
  clear hb hr
  go_wp2_with fail
  refine (HX.out _ HW2.out).mono ?_
  rintro e w3 ⟨lv, rfl, hb, hO⟩
  obtain ⟨A, ca, rfl⟩ := hO.lvs
  have hal := p_al w3 (.cells #[.int .i64 zeroN.kind, .string ⟨zeroN.text.toArray⟩, .int .i64 zeroN.val.kind, .int .i64 zeroN.val.num, .string ⟨zeroN.val.str.toArray⟩, .slice none 0 0, .slice none 0 0, .bool zeroN.flag, .slice A zeroN.kids.length ca, .int .i64 zeroN.spot] 29)
  have HB3 := Lib.hid (bthen (bthen HB2.out hb) hal)
  have HW3 := Lib.hid (HW2.out.below (bthen hb hal))
  have HR3 := Lib.hid (HR2.out.lower (bthen hb hal))
  clear hb hO hal HB1 HB2 HW1 HW2 HR2
  go_wp2_with fail
  generalize (w3.alloc (.cells #[.int .i64 zeroN.kind, .string ⟨zeroN.text.toArray⟩, .int .i64 zeroN.val.kind, .int .i64 zeroN.val.num, .string ⟨zeroN.val.str.toArray⟩, .slice none 0 0, .slice none 0 0, .bool zeroN.flag, .slice A zeroN.kids.length ca, .int .i64 zeroN.spot] 29)) = w4 at *
  have hd0 : ((p : Int) == (L.length : Int)) = decide (i = m) := by
    have := Hfl.out
    by_cases h : i = m
    · rw [decide_eq_true h]; simp; have := this.2 h; omega
    · rw [decide_eq_false h]; simp; intro h2; exact h (this.1 (by omega))
  rw [hd0]
  go_loopw [12, 13, 14] (fun v12 v13 v14 wr => ∃ j : Nat, j ≤ m ∧ v14 = .int .i64 (j : Int) ∧ v13 = .bool (decide (i = m) || decide (i < j)) ∧ v12 = .int .i64 (if i < j then (posAt ts (i + 1) : Int) else (L.length : Int)) ∧ wr = w4) (fun _ _ v _ => m + 1 - (intOf v).toNat)
  case atStart => exact ⟨0, by omega, rfl, by simp, by simp, rfl⟩
  case round =>
    obtain ⟨j, hj, rfl, rfl, rfl, rfl⟩ := hrel
    have hw : IntKind.i64.wrap ((j : Int) + 1) = (j : Int) + 1 := i64_in _ (by omega)
    by_cases hlt : j < m
    · have hbA : (j : Int) + 1 < (m : Int) + 1 := by omega
      have h00 : (0 : Int) ≤ (j : Int) := by omega
      have h01 : (j : Int) < (m : Int) + 1 := by omega
      have h02 : j < m + 1 := by omega
      have hjm : j < ts.length := by rw [Hm.out]; omega
      obtain ⟨g', c', hv, _, _, _, _, _, _, a3⟩ := HR3.out.tks j hjm
      injection hv with e1 _ _
      injection e1 with e1
      injection e1 with e1
      subst e1
      rw [show (tkAt ts j).pos = posAt ts j from rfl] at a3
      have hpj := Hpos.out j hjm
      by_cases hji : j = i
      · subst hji
        have hq : ((posAt ts j : Int) == (p : Int)) = true := by simp; have := hpj.2 rfl; omega
        have hjm1 : j + 1 < ts.length := by rw [Hm.out]; omega
        obtain ⟨g', c', hv, _, _, _, _, _, _, b3⟩ := HR3.out.tks (j + 1) hjm1
        injection hv with e1 _ _
        injection e1 with e1
        injection e1 with e1
        subst e1
        rw [show (tkAt ts (j + 1)).pos = posAt ts (j + 1) from rfl] at b3
        have h03 : (j : Int) + 1 < (m : Int) + 1 := by omega
        have h04 : (0 : Int) ≤ (j : Int) + 1 := by omega
        have h05 : ((j : Int) + 1).toNat = j + 1 := by omega
        have h06 : j + 1 < m + 1 := by omega
        have hn : ¬ j < j := by omega
        clear hpj
        generalize posAt ts j = pj at *
        generalize hE : posAt ts (j + 1) = E at *
        have HE := Lib.hid hE
        clear hE
        go_wp2_with fail
        exact ⟨⟨j + 1, by omega, by go_num, by simp, by rw [if_pos (by omega)], trivial⟩, by simp [intOf]; omega⟩
      · have hq : ((posAt ts j : Int) == (p : Int)) = false := by simp; intro h; exact hji (hpj.1 (by omega))
        have hlj : decide (i < j + 1) = decide (i < j) := by
          by_cases h : i < j
          · rw [decide_eq_true h, decide_eq_true (by omega)]
          · rw [decide_eq_false h, decide_eq_false (by omega)]
        have HLJ := Lib.hid hlj
        clear hlj hpj
        generalize posAt ts j = pj at *
        go_wp2_with fail
        exact ⟨⟨j + 1, by omega, by go_num, by rw [HLJ.out], by (by_cases h : i < j; · rw [if_pos h, if_pos (by omega)]); (rw [if_neg h, if_neg (by omega)]), trivial⟩, by simp [intOf]; omega⟩
    · obtain rfl : j = m := by omega
      have HD0 := Lib.hid hd0
      clear hd0
      by_cases him : i = j
      · subst him
        have hd1 : ((p : Int) == (L.length : Int)) = true := by rw [HD0.out]; simp
        have hpl' : ¬ ((L.length : Int) < (p : Int)) := by omega
        go_wp2_with fail
        go_ret
        exact ⟨rfl, HB3.out⟩
      · have hd1 : ((p : Int) == (L.length : Int)) = false := by rw [HD0.out]; simp; exact him
        have hij : i < j := by omega
        have hE := (Hge.out (i + 1) (by rw [Hm.out]; omega)).2
        have hmo := (Hmore.out (by rw [Hm.out]; omega)).2
        generalize posAt ts (i + 1) = E at *
        obtain ⟨P, hP⟩ : ∃ P, P = L.take E := ⟨_, rfl⟩
        have hPl : P.length = E := by rw [hP, List.length_take]; omega
        have hx : (⟨L.toArray⟩ : ByteArray).extract 0 E = ⟨P.toArray⟩ := by
          have h0 := ext_at ⟨L.toArray⟩ 0 E (by rw [ba_size]; omega)
          rw [Nat.zero_add] at h0
          rw [h0, hP]
          rfl
        rw [← hP] at hmo
        have Hmo := Lib.hid hmo
        have hpl' : ¬ ((L.length : Int) < (p : Int)) := by omega
        have he0 : (0 : Int) ≤ (E : Int) := by omega
        have he1 : (E : Int) ≤ (L.length : Int) := by omega
        have he2 : E ≤ L.length := by omega
        have hw1 : IntKind.i64.wrap ((E : Int) + 1) = (E : Int) + 1 := i64_in _ (by omega)
        have hw2 : IntKind.i64.wrap ((E : Int) + 1 + (R.length : Int)) = (E : Int) + 1 + (R.length : Int) := i64_in _ (by omega)
        clear hmo hP hE
        by_cases hbig : 8192 < E + 1 + R.length
        · have hb1 : (8192 : Int) < (E : Int) + 1 + (R.length : Int) := by omega
          go_wp2_with fail
          go_ret
          exact ⟨rfl, HB3.out⟩
        · have hb1 : ¬ ((8192 : Int) < (E : Int) + 1 + (R.length : Int)) := by omega
          obtain ⟨Q1, e1⟩ : ∃ Q1, Q1 = P ++ [10] := ⟨_, rfl⟩
          obtain ⟨Q2, e2⟩ : ∃ Q2, Q2 = Q1 ++ R := ⟨_, rfl⟩
          have hQ1 : Q1.length = E + 1 := by rw [e1, List.length_append, hPl]; rfl
          have add1 := str_add P [10] Q1 (by simp; omega) e1
          have add2 := str_add Q1 R Q2 (by omega) e2
          have hQ2 : Q2.length ≤ 8192 := by rw [e2, List.length_append, hQ1]; omega
          have hQ : P ++ 10 :: R = Q2 := by rw [e2, e1, List.append_assoc]; rfl
          have HX2 := Lib.hid (fun W (hW : LexW W) => x_Program (w := W) ⟨Q2.toArray⟩ (by rw [ba_size]; omega) hW)
          rcases hA2 : allS Q2 with ⟨q, e'⟩ | ts'
          · have hne := allS_ne0 hA2
            have hn1 : ((e' : Int) != 0) = true := by simp; omega
            have HL2 := Lib.hid (fun W (hW : LexW W) => lexErr ⟨Q2.toArray⟩ (by rw [ba_size]; omega) (show allS (⟨Q2.toArray⟩ : ByteArray).data.toList = _ from hA2) W hW)
            have hP2 : parseP (⟨Q2.toArray⟩ : ByteArray).data.toList = (zeroN, q, e') := parse_err hA2 _
            rw [hP2] at HX2
            clear hne hA2 hP2 hQ hQ1 hQ2 e1 e2
            go_wp2_with fail
            refine (HL2.out _ HW3.out).mono ?_
            rintro e w5 ⟨rfl, hb⟩
            have HB5 := Lib.hid (bthen HB3.out hb)
            have HW5 := Lib.hid (HW3.out.below hb)
            clear hb
            go_wp2_with fail
            refine (HX2.out _ HW5.out).mono ?_
            rintro e w6 ⟨lv, rfl, hb, hO⟩
            obtain ⟨A, ca, rfl⟩ := hO.lvs
            have HB6 := Lib.hid (bthen HB5.out hb)
            clear hb hO
            go_wp2_with fail
            go_ret
            exact ⟨rfl, HB6.out.alloc HB6.out.size _⟩
          · have HL2 := Lib.hid (fun W (hW : LexW W) => lexOk ⟨Q2.toArray⟩ (by rw [ba_size]; omega) (show allS (⟨Q2.toArray⟩ : ByteArray).data.toList = _ from hA2) W hW)
            have hP2 : parseP (⟨Q2.toArray⟩ : ByteArray).data.toList = (zeroN, p, 170) := by
              have := Hmo.out R ts'
              rw [hQ] at this
              exact this hA2
            rw [hP2] at HX2
            clear hA2 hP2 hQ hQ1 hQ2 e1 e2
            go_wp2_with fail
            refine (HL2.out _ HW3.out).mono ?_
            rintro e w5 ⟨g5, rfl, hb, -⟩
            have HB5 := Lib.hid (bthen HB3.out hb)
            have HW5 := Lib.hid (HW3.out.below hb)
            clear hb
            go_wp2_with fail
            refine (HX2.out _ HW5.out).mono ?_
            rintro e w6 ⟨lv, rfl, hb, hO⟩
            obtain ⟨A, ca, rfl⟩ := hO.lvs
            have HB6 := Lib.hid (bthen HB5.out hb)
            clear hb hO
            go_wp2_with fail
            go_ret
            exact ⟨rfl, HB6.out.alloc HB6.out.size _⟩
theorem law_ParseStops (s r : ByteArray) (w : World) (hs : s.size ≤ 1048576) (hr : r.size ≤ 1048576) (hW : LexW w) : Calls Tryz.prog 6 #[.string s, .string r] w fun e w' => e = .returned (.bool true) ∧ Below w.heap.size w w' := by
  obtain ⟨L, rfl⟩ : ∃ L : List UInt8, s = ⟨L.toArray⟩ := ⟨s.data.toList, ByteArray.ext (by simp)⟩
  obtain ⟨R, rfl⟩ : ∃ R : List UInt8, r = ⟨R.toArray⟩ := ⟨r.data.toList, ByteArray.ext (by simp)⟩
  rw [ba_size] at hs hr
  rcases hA : allS L with ⟨p, e⟩ | ts
  · exact law_PS_err L R hs hW hA
  · rcases hP : parseP L with ⟨n, p, f⟩
    by_cases hf : f = 170
    · subst hf
      have hz : n = zeroN := by
        rcases parse_ne0 L with ⟨p', e', h, _⟩ | ⟨n', h⟩
        · rw [hP] at h; injection h
        · rw [hP] at h; simp at h
      subst hz
      exact law_PS_stop L R hs hr hW hA hP
    · exact law_PS_ok L R hs hW hA hP hf
end
end Go.Proofs.YtlnhhffhmeekoaaGreatDoor
