/- Contract of lex.token. -/
import Derived.Test.YtgnoiliaidfepaaDoorLexToken
set_option linter.unusedVariables false
set_option linter.unusedSimpArgs false
namespace Go.Proofs.YtgnoiliaidfepaaDoor
open Go.RowKit Go.IntWalk

def tokL (o : Except Nat (Nat × List UInt8 × Nat × Nat)) : Ending := match o with
  | .ok (k, t, n, m) => .returned (.tuple #[tokV k t n 0, .int .i64 ((m : Nat) : Int), .int .i64 0])
  | .error e => .returned (.tuple #[tokV 0 [] 0 0, .int .i64 0, .int .i64 (e : Int)])

set_option maxRecDepth 20000 in
set_option maxHeartbeats 400000 in
theorem lex_token (s : ByteArray) (w : World) (hs : s.size ≤ 1048576) (h0 : 0 < s.size) (hW : LexW w) :
    Calls Tryd.prog 37 #[.string s] w fun e w' => e = tokL (tokS s.data.toList) ∧ Below w.heap.size w w' := by
  have HW := Lib.hid hW
  clear hW
  have hix := sB_lit s 0 0 rfl h0
  have hd := sB_drop s 0 h0
  rw [List.drop_zero] at hd
  have hwl := wordLen_le s.data.toList
  rw [data_len] at hwl
  have hhd : s.data.toList.headD 0 = sB s 0 := by rw [hd]; rfl
  have htl : s.data.toList.tail = s.data.toList.drop 1 := by rw [hd]; rfl
  have hext : s.extract 0 (wordLen s.data.toList) = ⟨(s.data.toList.take (wordLen s.data.toList)).toArray⟩ := by
    have := ext_at s 0 (wordLen s.data.toList) (by omega)
    simpa using this
  have htok : tokS s.data.toList = tokS s.data.toList := rfl
  conv at htok => rhs; unfold tokS
  simp only [hhd] at htok
  have hword := fun W => lex_word s W (by omega)
  rw [hext] at hword
  have hkw := fun W => lex_keyword ⟨(s.data.toList.take (wordLen s.data.toList)).toArray⟩ W
  have hquo := fun W => lex_quoted s W hs h0
  have hsig := fun W => lex_sign s W hs h0
  have htn : (s.data.toList.take (wordLen s.data.toList)).length = wordLen s.data.toList := by rw [List.length_take, data_len]; omega
  have htz : (⟨(s.data.toList.take (wordLen s.data.toList)).toArray⟩ : ByteArray).size = wordLen s.data.toList := by rw [ByteArray.size]; exact htn
  have hfirst : isDigit (sB s 0).toNat = true → ∃ r, s.data.toList.take (wordLen s.data.toList) = sB s 0 :: r := by
    intro h
    have hp := wordLen_pos (l := s.data.toList) (by rw [hd]; simp) (.inr (by rw [hhd]; exact h))
    cases hn : wordLen s.data.toList with
    | zero => omega
    | succ n => rw [hd]; exact ⟨_, rfl⟩
  have hpar := fun r (hr : s.data.toList.take (wordLen s.data.toList) = sB s 0 :: r) hc W hW => parse_call ⟨(s.data.toList.take (wordLen s.data.toList)).toArray⟩ (sB s 0) r hr hc (by rw [htz]; omega) W hW
  have hql : ∀ b r, quoS s.data.toList.tail [] = some (b, r) → r.length < s.size ∧ b.length ≤ 2047 := by
    intro b r h
    have := quoS_len h
    rw [htl, List.length_drop, data_len] at this
    have h3 := this.2.2 (by simp)
    omega
  have hsl := signS_len s.data.toList
  rw [data_len] at hsl htok
  clear hext htl
  generalize sB s 0 = c at *
  have hc : c.toNat < 256 := c.toNat_lt
  generalize wordLen s.data.toList = n at *
  generalize s.data.toList.take n = t at *
  generalize signS s.data.toList = sg at *
  generalize quoS s.data.toList.tail [] = q at *
  generalize tokS s.data.toList = T at *
  clear hd hhd
  by_cases h1 : isLetter c.toNat = true
  · rw [if_pos h1] at htok
    clear hquo hsig hql hsl hpar hfirst
    by_cases h2 : isKeyword t = true
    · rw [if_pos h2, htn] at htok
      subst htok
      simp only [h2] at hkw
      go_enter Tryd.func37, Tryd.ntmps37
      go_wp2_with (first
        | (go_at_call 64; refine (hword _).mono ?_; rintro e w1 ⟨rfl, hb1⟩; obtain ⟨a0, a1, a2, a3, a4, hBw⟩ := one_below (one_new _ _ _ _ _ _) hb1; have HBw := Lib.hid hBw; clear hBw)
        | (go_at_call 65; refine (lex_letter _ _).mono ?_; rintro e w' ⟨rfl, rfl⟩)
        | (go_at_call 67; refine (lex_digit _ _).mono ?_; rintro e w' ⟨rfl, rfl⟩)
        | (go_at_call 66; refine (hkw _).mono ?_; rintro e w' ⟨rfl, rfl⟩))
      refine bodyPost_ret (v := .tuple #[tokV 2 t 0 0, .int .i64 n, .int .i64 0]) (by simp [results, tokV, Tryd.results37, go_sem, World.cell?_setCell_far, a0, a1, a2, a3]) rfl ⟨?_, ?_⟩
      · simp [tokL]
      · refine ((((HBw.out.setCell ?_ _).setCell ?_ _).setCell ?_ _).setCell ?_ _) <;> simp
    have h2' : isKeyword t = false := by simpa using h2
    simp only [h2'] at hkw
    rw [if_neg h2] at htok
    by_cases h3 : 20 < n
    · rw [if_pos (by omega)] at htok
      subst htok
      go_enter Tryd.func37, Tryd.ntmps37
      go_wp2_with (first
        | (go_at_call 64; refine (hword _).mono ?_; rintro e w1 ⟨rfl, hb1⟩; obtain ⟨a0, a1, a2, a3, a4, hBw⟩ := one_below (one_new _ _ _ _ _ _) hb1; have HBw := Lib.hid hBw; clear hBw)
        | (go_at_call 65; refine (lex_letter _ _).mono ?_; rintro e w' ⟨rfl, rfl⟩)
        | (go_at_call 67; refine (lex_digit _ _).mono ?_; rintro e w' ⟨rfl, rfl⟩)
        | (go_at_call 66; refine (hkw _).mono ?_; rintro e w' ⟨rfl, rfl⟩))
      refine bodyPost_ret (v := .tuple #[tokV 0 [] 0 0, .int .i64 0, .int .i64 164]) (by simp [results, tokV, Tryd.results37, go_sem, World.cell?_setCell_far, a0, a1, a2, a3]) rfl ⟨?_, ?_⟩
      · simp [tokL]
      · refine ((((HBw.out.setCell ?_ _).setCell ?_ _).setCell ?_ _).setCell ?_ _) <;> simp
    · rw [if_neg (by omega), htn] at htok
      subst htok
      go_enter Tryd.func37, Tryd.ntmps37
      go_wp2_with (first
        | (go_at_call 64; refine (hword _).mono ?_; rintro e w1 ⟨rfl, hb1⟩; obtain ⟨a0, a1, a2, a3, a4, hBw⟩ := one_below (one_new _ _ _ _ _ _) hb1; have HBw := Lib.hid hBw; clear hBw)
        | (go_at_call 65; refine (lex_letter _ _).mono ?_; rintro e w' ⟨rfl, rfl⟩)
        | (go_at_call 67; refine (lex_digit _ _).mono ?_; rintro e w' ⟨rfl, rfl⟩)
        | (go_at_call 66; refine (hkw _).mono ?_; rintro e w' ⟨rfl, rfl⟩))
      refine bodyPost_ret (v := .tuple #[tokV 1 t 0 0, .int .i64 n, .int .i64 0]) (by simp [results, tokV, Tryd.results37, go_sem, World.cell?_setCell_far, a0, a1, a2, a3]) rfl ⟨?_, ?_⟩
      · simp [tokL]
      · refine ((((HBw.out.setCell ?_ _).setCell ?_ _).setCell ?_ _).setCell ?_ _) <;> simp
  have h1' : isLetter c.toNat = false := by simpa using h1
  rw [if_neg h1] at htok
  clear hkw
  by_cases h2 : isDigit c.toNat = true
  · rw [if_pos h2] at htok
    clear hquo hsig hql hsl
    obtain ⟨r, hr⟩ := hfirst h2
    have hpar' := hpar r hr h2
    clear hpar hfirst
    have hnum : Hid (numS t = if (c :: r).all digitB = true ∧ ((c :: r).length ≤ 1 ∨ (c :: r).headD 0 ≠ 48) ∧ valS (c :: r) < 9223372036854775808 then some (valS (c :: r)) else none) := by
      show _ = _
      rw [hr]; rfl
    by_cases hg : (c :: r).all digitB = true ∧ valS (c :: r) < 9223372036854775808
    · by_cases hz : c.toNat = 48 ∧ r ≠ []
      · have hnn : numS t = none := by
          rw [hr]; exact numS_zero hz.1 hz.2
        rw [hnn] at htok
        simp only [] at htok
        subst htok
        have Hg := Lib.hid hg
        have hz1 := hz.1
        have hz2 : t ≠ [48] := by
          rw [hr]
          intro e
          injection e with _ e
          exact hz.2 e
        have hz3 : (t == [48]) = false := by simpa using hz2
        have hz4 : ((c.toNat : Int) == 48) = true := by simp [hz1]
        clear hz hz2 hg hnum hr hnn hz1
        generalize valS (c :: r) = u at *
        go_enter Tryd.func37, Tryd.ntmps37
        go_wp2_with (first
          | (go_at_call 64; refine (hword _).mono ?_; rintro e w1 ⟨rfl, hb1⟩; obtain ⟨a0, a1, a2, a3, a4, hBw⟩ := one_below (one_new _ _ _ _ _ _) hb1; have HBw := Lib.hid hBw; clear hBw)
          | (go_at_call 65; refine (lex_letter _ _).mono ?_; rintro e w' ⟨rfl, rfl⟩)
          | (go_at_call 67; refine (lex_digit _ _).mono ?_; rintro e w' ⟨rfl, rfl⟩)
          | (go_at_call 68; refine (hpar' _ ((HW.out.alloc _).below hb1)).mono ?_; rintro e w2 ⟨v, er, rfl, hb2, hok, hbad⟩; obtain ⟨a0, a1, a2, a3, a4, hBw⟩ := one_below ⟨a0, a1, a2, a3, a4, HBw.out⟩ hb2; have HBw := Lib.hid hBw; clear hBw; obtain ⟨rfl, rfl⟩ := hok Hg.out; clear hok hbad))
        refine bodyPost_ret (v := .tuple #[tokV 0 [] 0 0, .int .i64 0, .int .i64 162]) (by simp [results, tokV, Tryd.results37, go_sem, World.cell?_setCell_far, a0, a1, a2, a3]) rfl ⟨?_, ?_⟩
        · simp [tokL]
        · refine ((((HBw.out.setCell ?_ _).setCell ?_ _).setCell ?_ _).setCell ?_ _) <;> simp
      · have hnn : numS t = some (valS (c :: r)) := by
          rw [hnum.out, if_pos]
          refine ⟨hg.1, ?_, hg.2⟩
          cases r with
          | nil => left; simp
          | cons a r =>
            right
            intro e
            apply hz
            refine ⟨?_, by simp⟩
            simp only [List.headD_cons] at e
            rw [e]; rfl
        rw [hnn, htn] at htok
        simp only [] at htok
        subst htok
        have Hg := Lib.hid hg
        by_cases hz1 : c.toNat = 48
        · have hrn : r = [] := by
            by_cases h : r = []
            · exact h
            · exact absurd ⟨hz1, h⟩ hz
          have hz3 : (t == [48]) = true := by rw [hr, hrn, show c = 48 from UInt8.toNat_inj.1 hz1]; rfl
          have hz4 : ((c.toNat : Int) == 48) = true := by simp [hz1]
          clear hz hg hnum hr hnn hz1 hrn
          generalize valS (c :: r) = u at *
          go_enter Tryd.func37, Tryd.ntmps37
          go_wp2_with (first
            | (go_at_call 64; refine (hword _).mono ?_; rintro e w1 ⟨rfl, hb1⟩; obtain ⟨a0, a1, a2, a3, a4, hBw⟩ := one_below (one_new _ _ _ _ _ _) hb1; have HBw := Lib.hid hBw; clear hBw)
            | (go_at_call 65; refine (lex_letter _ _).mono ?_; rintro e w' ⟨rfl, rfl⟩)
            | (go_at_call 67; refine (lex_digit _ _).mono ?_; rintro e w' ⟨rfl, rfl⟩)
            | (go_at_call 68; refine (hpar' _ ((HW.out.alloc _).below hb1)).mono ?_; rintro e w2 ⟨v, er, rfl, hb2, hok, hbad⟩; obtain ⟨a0, a1, a2, a3, a4, hBw⟩ := one_below ⟨a0, a1, a2, a3, a4, HBw.out⟩ hb2; have HBw := Lib.hid hBw; clear hBw; obtain ⟨rfl, rfl⟩ := hok Hg.out; clear hok hbad))
          refine bodyPost_ret (v := .tuple #[tokV 3 [] u 0, .int .i64 n, .int .i64 0]) (by simp [results, tokV, Tryd.results37, go_sem, World.cell?_setCell_far, a0, a1, a2, a3]) rfl ⟨?_, ?_⟩
          · simp [tokL]
          · refine ((((HBw.out.setCell ?_ _).setCell ?_ _).setCell ?_ _).setCell ?_ _) <;> simp
        · have hz4 : ((c.toNat : Int) == 48) = false := by simp; omega
          clear hz hg hnum hr hnn hz1
          generalize valS (c :: r) = u at *
          go_enter Tryd.func37, Tryd.ntmps37
          go_wp2_with (first
            | (go_at_call 64; refine (hword _).mono ?_; rintro e w1 ⟨rfl, hb1⟩; obtain ⟨a0, a1, a2, a3, a4, hBw⟩ := one_below (one_new _ _ _ _ _ _) hb1; have HBw := Lib.hid hBw; clear hBw)
            | (go_at_call 65; refine (lex_letter _ _).mono ?_; rintro e w' ⟨rfl, rfl⟩)
            | (go_at_call 67; refine (lex_digit _ _).mono ?_; rintro e w' ⟨rfl, rfl⟩)
            | (go_at_call 68; refine (hpar' _ ((HW.out.alloc _).below hb1)).mono ?_; rintro e w2 ⟨v, er, rfl, hb2, hok, hbad⟩; obtain ⟨a0, a1, a2, a3, a4, hBw⟩ := one_below ⟨a0, a1, a2, a3, a4, HBw.out⟩ hb2; have HBw := Lib.hid hBw; clear hBw; obtain ⟨rfl, rfl⟩ := hok Hg.out; clear hok hbad))
          refine bodyPost_ret (v := .tuple #[tokV 3 [] u 0, .int .i64 n, .int .i64 0]) (by simp [results, tokV, Tryd.results37, go_sem, World.cell?_setCell_far, a0, a1, a2, a3]) rfl ⟨?_, ?_⟩
          · simp [tokL]
          · refine ((((HBw.out.setCell ?_ _).setCell ?_ _).setCell ?_ _).setCell ?_ _) <;> simp
    · have hnn : numS t = none := by
        rw [hnum.out, if_neg (fun h => hg ⟨h.1, h.2.2⟩)]
      rw [hnn] at htok
      simp only [] at htok
      subst htok
      have Hg := Lib.hid hg
      clear hg hnum hr hnn
      generalize valS (c :: r) = u at *
      go_enter Tryd.func37, Tryd.ntmps37
      go_wp2_with (first
        | (go_at_call 64; refine (hword _).mono ?_; rintro e w1 ⟨rfl, hb1⟩; obtain ⟨a0, a1, a2, a3, a4, hBw⟩ := one_below (one_new _ _ _ _ _ _) hb1; have HBw := Lib.hid hBw; clear hBw)
        | (go_at_call 65; refine (lex_letter _ _).mono ?_; rintro e w' ⟨rfl, rfl⟩)
        | (go_at_call 67; refine (lex_digit _ _).mono ?_; rintro e w' ⟨rfl, rfl⟩)
        | (go_at_call 68; refine (hpar' _ ((HW.out.alloc _).below hb1)).mono ?_; rintro e w2 ⟨v, er, rfl, hb2, hok, hbad⟩; obtain ⟨a0, a1, a2, a3, a4, hBw⟩ := one_below ⟨a0, a1, a2, a3, a4, HBw.out⟩ hb2; have HBw := Lib.hid hBw; clear hBw; obtain ⟨te, pe, rfl⟩ := hbad Hg.out; clear hok hbad))
      refine bodyPost_ret (v := .tuple #[tokV 0 [] 0 0, .int .i64 0, .int .i64 162]) (by simp [results, tokV, Tryd.results37, go_sem, World.cell?_setCell_far, a0, a1, a2, a3]) rfl ⟨?_, ?_⟩
      · simp [tokL]
      · refine ((((HBw.out.setCell ?_ _).setCell ?_ _).setCell ?_ _).setCell ?_ _) <;> simp
  have h2' : isDigit c.toNat = false := by simpa using h2
  rw [if_neg h2] at htok
  clear hpar hfirst
  by_cases h3 : c.toNat = 34
  · rw [if_pos h3] at htok
    have q34 : ((c.toNat : Int) == 34) = true := by simp [h3]
    rcases hq : q with _ | ⟨b, r⟩
    · rw [hq] at htok hquo
      simp only [] at htok
      subst htok
      replace hquo : ∀ W : World, Calls Tryd.prog 69 #[.string s] W fun e w' => e = .returned (.tuple #[.string ⟨#[]⟩, .int .i64 0]) ∧ Below W.heap.size W w' := hquo
      go_enter Tryd.func37, Tryd.ntmps37
      go_wp2_with (first
        | (go_at_call 64; refine (hword _).mono ?_; rintro e w1 ⟨rfl, hb1⟩; obtain ⟨a0, a1, a2, a3, a4, hBw⟩ := one_below (one_new _ _ _ _ _ _) hb1; have HBw := Lib.hid hBw; clear hBw)
        | (go_at_call 65; refine (lex_letter _ _).mono ?_; rintro e w' ⟨rfl, rfl⟩)
        | (go_at_call 67; refine (lex_digit _ _).mono ?_; rintro e w' ⟨rfl, rfl⟩)
        | (go_at_call 69; refine (hquo _).mono ?_; rintro e w2 ⟨rfl, hb2⟩; obtain ⟨a0, a1, a2, a3, a4, hBw⟩ := one_below ⟨a0, a1, a2, a3, a4, HBw.out⟩ hb2; have HBw := Lib.hid hBw; clear hBw))
      refine bodyPost_ret (v := .tuple #[tokV 0 [] 0 0, .int .i64 0, .int .i64 163]) (by simp [results, tokV, Tryd.results37, go_sem, World.cell?_setCell_far, a0, a1, a2, a3]) rfl ⟨?_, ?_⟩
      · simp [tokL]
      · refine ((((HBw.out.setCell ?_ _).setCell ?_ _).setCell ?_ _).setCell ?_ _) <;> simp
    · have hq2 := hql b r hq
      rw [hq] at htok hquo
      simp only [] at htok
      subst htok
      replace hquo : ∀ W : World, Calls Tryd.prog 69 #[.string s] W fun e w' => e = .returned (.tuple #[.string ⟨b.toArray⟩, .int .i64 ((s.size - r.length : Nat) : Int)]) ∧ Below W.heap.size W w' := hquo
      have hm0 : 0 < s.size - r.length := by omega
      generalize s.size - r.length = m at *
      have hmz : ((m : Int) == 0) = false := by simp; omega
      go_enter Tryd.func37, Tryd.ntmps37
      go_wp2_with (first
        | (go_at_call 64; refine (hword _).mono ?_; rintro e w1 ⟨rfl, hb1⟩; obtain ⟨a0, a1, a2, a3, a4, hBw⟩ := one_below (one_new _ _ _ _ _ _) hb1; have HBw := Lib.hid hBw; clear hBw)
        | (go_at_call 65; refine (lex_letter _ _).mono ?_; rintro e w' ⟨rfl, rfl⟩)
        | (go_at_call 67; refine (lex_digit _ _).mono ?_; rintro e w' ⟨rfl, rfl⟩)
        | (go_at_call 69; refine (hquo _).mono ?_; rintro e w2 ⟨rfl, hb2⟩; obtain ⟨a0, a1, a2, a3, a4, hBw⟩ := one_below ⟨a0, a1, a2, a3, a4, HBw.out⟩ hb2; have HBw := Lib.hid hBw; clear hBw))
      refine bodyPost_ret (v := .tuple #[tokV 4 b 0 0, .int .i64 m, .int .i64 0]) (by simp [results, tokV, Tryd.results37, go_sem, World.cell?_setCell_far, a0, a1, a2, a3]) rfl ⟨?_, ?_⟩
      · simp [tokL]
      · refine ((((HBw.out.setCell ?_ _).setCell ?_ _).setCell ?_ _).setCell ?_ _) <;> simp
  have q34 : ((c.toNat : Int) == 34) = false := by simp; omega
  rw [if_neg h3] at htok
  clear hquo hql
  by_cases h4 : sg = []
  · rw [if_pos h4] at htok
    subst htok
    rw [h4] at hsig
    go_enter Tryd.func37, Tryd.ntmps37
    go_wp2_with (first
      | (go_at_call 64; refine (hword _).mono ?_; rintro e w1 ⟨rfl, hb1⟩; obtain ⟨a0, a1, a2, a3, a4, hBw⟩ := one_below (one_new _ _ _ _ _ _) hb1; have HBw := Lib.hid hBw; clear hBw)
      | (go_at_call 65; refine (lex_letter _ _).mono ?_; rintro e w' ⟨rfl, rfl⟩)
      | (go_at_call 67; refine (lex_digit _ _).mono ?_; rintro e w' ⟨rfl, rfl⟩)
      | (go_at_call 70; refine (hsig _).mono ?_; rintro e w2 ⟨rfl, hb2⟩; obtain ⟨a0, a1, a2, a3, a4, hBw⟩ := one_below ⟨a0, a1, a2, a3, a4, HBw.out⟩ hb2; have HBw := Lib.hid hBw; clear hBw))
    refine bodyPost_ret (v := .tuple #[tokV 0 [] 0 0, .int .i64 0, .int .i64 161]) (by simp [results, tokV, Tryd.results37, go_sem, World.cell?_setCell_far, a0, a1, a2, a3]) rfl ⟨?_, ?_⟩
    · simp [tokL]
    · refine ((((HBw.out.setCell ?_ _).setCell ?_ _).setCell ?_ _).setCell ?_ _) <;> simp
  · rw [if_neg h4] at htok
    subst htok
    have hsz2 : (⟨sg.toArray⟩ : ByteArray).size = sg.length := by simp [ByteArray.size]
    have hem : sg.isEmpty = false := by simpa using h4
    have hsl2 := hsl h4
    go_enter Tryd.func37, Tryd.ntmps37
    go_wp2_with (first
      | (go_at_call 64; refine (hword _).mono ?_; rintro e w1 ⟨rfl, hb1⟩; obtain ⟨a0, a1, a2, a3, a4, hBw⟩ := one_below (one_new _ _ _ _ _ _) hb1; have HBw := Lib.hid hBw; clear hBw)
      | (go_at_call 65; refine (lex_letter _ _).mono ?_; rintro e w' ⟨rfl, rfl⟩)
      | (go_at_call 67; refine (lex_digit _ _).mono ?_; rintro e w' ⟨rfl, rfl⟩)
      | (go_at_call 70; refine (hsig _).mono ?_; rintro e w2 ⟨rfl, hb2⟩; obtain ⟨a0, a1, a2, a3, a4, hBw⟩ := one_below ⟨a0, a1, a2, a3, a4, HBw.out⟩ hb2; have HBw := Lib.hid hBw; clear hBw))
    refine bodyPost_ret (v := .tuple #[tokV 5 sg 0 0, .int .i64 sg.length, .int .i64 0]) (by simp [results, tokV, Tryd.results37, go_sem, World.cell?_setCell_far, a0, a1, a2, a3]) rfl ⟨?_, ?_⟩
    · simp [tokL]
    · refine ((((HBw.out.setCell ?_ _).setCell ?_ _).setCell ?_ _).setCell ?_ _) <;> simp
end Go.Proofs.YtgnoiliaidfepaaDoor
