/- Plain law: a text up to the place of one of its tokens, or of its fault, reads as the whole text reads up to there. A source and more behind it (behind a byte that prolongs no token): the same tokens, and then the rest's. Plain facts. What the lexer's tokens are: bounds. Plain facts. -/
import Derived.Test.YtlnhhffhmeekoaaGreatDoorLexTokSpec
set_option linter.unusedVariables false
set_option linter.unusedSimpArgs false
namespace Go.Proofs.YtlnhhffhmeekoaaGreatDoor

theorem skip_take (b : Bool) (l : List UInt8) : ∀ q, l.length - (skip b l).length ≤ q → skip b (l.take q) = (skip b l).take (q - (l.length - (skip b l).length)) := by
  induction l generalizing b with
  | nil => intro q _; simp [skip]
  | cons c r ih =>
    intro q hq
    have h1 := skip_len false r
    have h2 := skip_len true r
    have key : ∀ b' : Bool, (c :: r).length - (skip b' r).length ≤ q → skip b' (r.take (q - 1)) = (skip b' r).take (q - ((c :: r).length - (skip b' r).length)) ∧ 0 < q := by
      intro b' h
      have h3 := skip_len b' r
      simp only [List.length_cons] at h ⊢
      rw [ih b' (q - 1) (by omega)]
      refine ⟨?_, by omega⟩
      congr 1
      omega
    cases b
    · simp only [skip] at hq ⊢
      by_cases hb : isBlank c = true
      · rw [if_pos hb] at hq ⊢
        obtain ⟨e, hp⟩ := key false hq
        obtain ⟨q, rfl⟩ : ∃ m, q = m + 1 := ⟨q - 1, by omega⟩
        rw [List.take_succ_cons, skip, if_pos hb]
        exact e
      · rw [if_neg hb] at hq ⊢
        by_cases hn : c.toNat = 47 ∧ r.head? = some 47
        · rw [if_pos hn] at hq ⊢
          obtain ⟨e, hp⟩ := key true hq
          obtain ⟨q, rfl⟩ : ∃ m, q = m + 1 := ⟨q - 1, by omega⟩
          have hr : (r.take q).head? = some 47 := by
            cases r with
            | nil => simp at hn
            | cons d r' =>
              have hd : d = 47 := by simpa using hn.2
              subst hd
              have : skip true (47 :: r') = skip true r' := by simp [skip]
              rw [this] at hq
              have := skip_len true r'
              simp only [List.length_cons] at hq
              obtain ⟨q, rfl⟩ : ∃ m, q = m + 1 := ⟨q - 1, by omega⟩
              simp
          rw [List.take_succ_cons, skip, if_neg hb, if_pos ⟨hn.1, hr⟩]
          exact e
        · rw [if_neg hn] at hq ⊢
          rw [Nat.sub_self, Nat.sub_zero]
          cases q with
          | zero => simp [skip]
          | succ q =>
            rw [List.take_succ_cons, skip, if_neg hb, if_neg]
            rintro ⟨h, h'⟩
            refine hn ⟨h, ?_⟩
            cases r with
            | nil => simp at h'
            | cons d r' =>
              cases q with
              | zero => simp at h'
              | succ q => simpa using h'
    · simp only [skip] at hq ⊢
      by_cases hb : c.toNat = 10
      · rw [if_pos hb] at hq ⊢
        obtain ⟨e, hp⟩ := key false hq
        obtain ⟨q, rfl⟩ : ∃ m, q = m + 1 := ⟨q - 1, by omega⟩
        rw [List.take_succ_cons, skip, if_pos hb]
        exact e
      · rw [if_neg hb] at hq ⊢
        obtain ⟨e, hp⟩ := key true hq
        obtain ⟨q, rfl⟩ : ∃ m, q = m + 1 := ⟨q - 1, by omega⟩
        rw [List.take_succ_cons, skip, if_neg hb]
        exact e

theorem wordLen_take (l : List UInt8) : ∀ q, wordLen l ≤ q → wordLen (l.take q) = wordLen l := by
  induction l with
  | nil => intro q _; simp
  | cons c r ih =>
    intro q hq
    by_cases h : isWord c = true
    · have e : ∀ x, wordLen (c :: x) = wordLen x + 1 := fun x => by simp [wordLen, h]
      rw [e] at hq ⊢
      obtain ⟨q, rfl⟩ : ∃ m, q = m + 1 := ⟨q - 1, by omega⟩
      rw [List.take_succ_cons, e, ih q (by omega)]
    · have e : ∀ x, wordLen (c :: x) = 0 := fun x => by simp [wordLen, h]
      rw [e] at hq ⊢
      cases q with
      | zero => rfl
      | succ q => rw [List.take_succ_cons, e]

theorem escS_take (l : List UInt8) {b : UInt8} {n : Nat} (h : escS l = some (b, n)) : ∀ q, n ≤ q + 1 → escS (l.take q) = some (b, n) := by
  intro q hq
  have hp := escS_pos h
  cases l with
  | nil => simp [escS] at h
  | cons d r =>
    unfold escS at h
    simp only [] at h
    split at h
    · rename_i hd
      simp at h
      obtain ⟨rfl, rfl⟩ := h
      obtain ⟨q, rfl⟩ : ∃ m, q = m + 1 := ⟨q - 1, by omega⟩
      rw [List.take_succ_cons]
      unfold escS
      simp only []
      rw [if_pos hd]
    · rename_i hd
      split at h
      · rename_i hx
        split at h
        · rename_i x y r'
          split at h
          · rename_i a b' ha hb
            simp only [Option.some.injEq, Prod.mk.injEq] at h
            obtain ⟨rfl, rfl⟩ := h
            obtain ⟨q, rfl⟩ : ∃ m, q = m + 3 := ⟨q - 3, by omega⟩
            simp only [List.take_succ_cons]
            unfold escS
            simp only []
            rw [if_neg hd, if_pos hx]
            simp only [ha, hb]
          · simp at h
        · simp at h
      · simp at h
theorem pieceS_take (l : List UInt8) {b : UInt8} {n : Nat} (h : pieceS l = some (b, n)) : ∀ q, n ≤ q → pieceS (l.take q) = some (b, n) := by
  intro q hq
  have hp := pieceS_pos h
  cases l with
  | nil => simp [pieceS] at h
  | cons c r =>
    obtain ⟨q, rfl⟩ : ∃ m, q = m + 1 := ⟨q - 1, by omega⟩
    rw [List.take_succ_cons]
    unfold pieceS at h ⊢
    simp only [] at h ⊢
    split at h
    · simp at h
    · rename_i h1
      rw [if_neg h1]
      split at h
      · rename_i h2
        rw [if_pos h2]
        exact h
      · rename_i h2
        rw [if_neg h2]
        exact escS_take r h q (by omega)
theorem qrun_take (f : Nat) : ∀ (l acc b r : List UInt8), qrun f l acc = some (b, r) → ∀ q, l.length - r.length ≤ q → qrun f (l.take q) acc = some (b, r.take (q - (l.length - r.length))) := by
  induction f with
  | zero => intro l acc b r h; simp [qrun] at h
  | succ f ih =>
    intro l acc b r h q hq
    have hl := quoS_len h
    cases l with
    | nil => simp [qrun] at h
    | cons c l =>
      obtain ⟨q, rfl⟩ : ∃ m, q = m + 1 := ⟨q - 1, by simp only [List.length_cons] at *; omega⟩
      simp only [qrun] at h
      split at h
      · rename_i h1
        simp at h
        obtain ⟨rfl, rfl⟩ := h
        rw [List.take_succ_cons, qrun, if_pos h1]
        simp
      · rename_i h1
        split at h
        · simp at h
        · rename_i h2
          split at h
          · simp at h
          · rename_i b' n hp
            have hn := pieceS_pos hp
            have hd := quoS_len h
            simp only [List.length_drop, List.length_cons] at hd hn hq
            have h3 := pieceS_take (c :: l) hp (q + 1) (by omega)
            have h4 := ih _ _ _ _ h (q + 1 - n) (by simp only [List.length_drop, List.length_cons]; omega)
            rw [List.take_succ_cons] at h3 ⊢
            simp only [qrun, if_neg h1, if_neg h2, h3]
            rw [← List.take_succ_cons, List.drop_take, h4]
            simp only [List.length_drop, List.length_cons]
            congr 3
            omega

theorem headD_take (l : List UInt8) (q : Nat) (h : 0 < q) : (l.take q).headD 0 = l.headD 0 := by
  obtain ⟨q, rfl⟩ : ∃ m, q = m + 1 := ⟨q - 1, by omega⟩
  cases l <;> rfl
theorem pairs_len {x : List UInt8} (h : pairs.contains x = true) : x.length = 2 := by
  have : x ∈ pairs := by simpa using h
  revert this x
  simp [pairs]
theorem signS_take (l : List UInt8) (h : signS l ≠ []) : ∀ q, (signS l).length ≤ q → signS (l.take q) = signS l := by
  intro q hq
  have hl := signS_len l h
  have hh := headD_take l q (by omega)
  unfold signS at *
  by_cases hp : pairs.contains (l.take 2) = true
  · have := pairs_len hp
    rw [if_pos hp] at hq ⊢
    have e : (l.take q).take 2 = l.take 2 := by rw [List.take_take]; congr 1; omega
    rw [e, if_pos hp]
  · rw [if_neg hp] at h hq ⊢
    split at hq
    · rename_i hs
      rw [if_pos hs] at hl ⊢
      have h1 : (l.take 1).length = 1 := by rw [List.length_take] at *; omega
      have e1 : (l.take q).take 1 = l.take 1 := by rw [List.take_take]; congr 1; omega
      by_cases h2 : 2 ≤ q
      · have e : (l.take q).take 2 = l.take 2 := by rw [List.take_take]; congr 1; omega
        rw [e, if_neg hp, hh, if_pos hs, e1]
      · obtain rfl : q = 1 := by omega
        have e : (l.take 1).take 2 = l.take 1 := by rw [List.take_take]; rfl
        rw [e, if_neg (fun hc => by have := pairs_len hc; omega), hh, if_pos hs, e1]
    · rename_i hs
      rw [if_neg hs] at h
      exact absurd rfl h

theorem tokS_take (l : List UInt8) {k n m : Nat} {t : List UInt8} (hl : l ≠ []) (h : tokS l = .ok (k, t, n, m)) : ∀ q, m ≤ q → tokS (l.take q) = .ok (k, t, n, m) := by
  intro q hq
  have hm := tokS_len hl h
  have hh := headD_take l q (by omega)
  have hw := wordLen_le l
  have ht : (l.take (wordLen l)).length = wordLen l := by rw [List.length_take]; omega
  unfold tokS at h ⊢
  simp only [hh] at h ⊢
  have hword : wordLen l ≤ q → (l.take q).take (wordLen (l.take q)) = l.take (wordLen l) := by
    intro hq'
    rw [wordLen_take l q hq', List.take_take]
    congr 1
    omega
  split at h
  · rename_i h1
    rw [if_pos h1]
    split at h
    · rename_i h2
      simp at h
      rw [hword (by omega), if_pos h2]
      obtain ⟨rfl, rfl, rfl, rfl⟩ := h
      simp
    · rename_i h2
      split at h
      · simp at h
      · rename_i h3
        simp at h
        rw [hword (by omega), if_neg h2, if_neg h3]
        obtain ⟨rfl, rfl, rfl, rfl⟩ := h
        simp
  · rename_i h1
    rw [if_neg h1]
    split at h
    · rename_i h2
      rw [if_pos h2]
      split at h
      · rename_i nn hn
        simp at h
        rw [hword (by omega), hn]
        obtain ⟨rfl, rfl, rfl, rfl⟩ := h
        simp
      · simp at h
    · rename_i h2
      rw [if_neg h2]
      split at h
      · rename_i h3
        rw [if_pos h3]
        split at h
        · rename_i b r hb
          simp at h
          have hb' := hb
          unfold quoS at hb'
          have hle := quoS_len hb'
          cases l with
          | nil => exact absurd rfl hl
          | cons c l' =>
            simp only [List.tail_cons, List.length_cons] at *
            obtain ⟨q, rfl⟩ : ∃ m, q = m + 1 := ⟨q - 1, by omega⟩
            have h5 := qrun_take _ _ _ _ _ hb' q (by omega)
            have h6 : quoS (l'.take q) [] = some (b, r.take (q - (l'.length - r.length))) := by
              rw [quoS, ← h5]
              apply qrun_fuel
              · omega
              · rw [List.length_take]; omega
            rw [List.take_succ_cons, List.tail_cons, h6]
            simp only [List.length_cons, List.length_take]
            obtain ⟨h7, h8, h9, h10⟩ := h
            subst h7 h8 h9
            congr 4
            omega
        · simp at h
      · rename_i h3
        rw [if_neg h3]
        split at h
        · simp at h
        · rename_i h4
          simp at h
          have := signS_take l h4 q (by omega)
          rw [this, if_neg h4]
          obtain ⟨rfl, rfl, rfl, rfl⟩ := h
          simp

/-- what a source's tokens are, one behind the other, and that each beginning reads alike -/
def posAt (ts : List Tok) (i : Nat) : Nat := (ts.getD i ⟨0, [], 0, 0⟩).pos
structure OkRun (l : List UInt8) (pos : Nat) (ts : List Tok) : Prop where
  last : ∃ u, ts = u ++ [⟨0, [], 0, pos + l.length⟩]
  ge : ∀ i, i < ts.length → pos ≤ posAt ts i ∧ posAt ts i ≤ pos + l.length
  rise : ∀ i, i + 1 < ts.length → posAt ts i < posAt ts (i + 1)
  cut : ∀ i, i < ts.length → ∀ g acc, posAt ts i - pos < g → allRun g (l.take (posAt ts i - pos)) pos acc = .ok (acc ++ ts.take i ++ [⟨0, [], 0, posAt ts i⟩])
theorem run_ok (f : Nat) : ∀ (l : List UInt8) (pos : Nat) (acc toks : List Tok), allRun f l pos acc = .ok toks → ∃ ts, toks = acc ++ ts ∧ OkRun l pos ts := by
  induction f with
  | zero => intro l pos acc toks h; simp [allRun] at h
  | succ f ih =>
    intro l pos acc toks h
    have hsk := skip_len false l
    simp only [allRun] at h
    split at h
    · rename_i hr
      injection h with h
      refine ⟨[⟨0, [], 0, pos + l.length⟩], by rw [← h, hr]; simp, ⟨⟨[], rfl⟩, ?_, ?_, ?_⟩⟩
      · intro i hi
        obtain rfl : i = 0 := by simpa using hi
        simp [posAt]
      · intro i hi; simp at hi
      · intro i hi g acc' hg
        obtain rfl : i = 0 := by simpa using hi
        simp only [posAt, List.getD_cons_zero, Nat.add_sub_cancel_left] at hg ⊢
        obtain ⟨g, rfl⟩ : ∃ m, g = m + 1 := ⟨g - 1, by omega⟩
        rw [List.take_length, allRun]
        simp [hr]
    · rename_i hr
      split at h
      · cases h
      · rename_i k t n m ht
        have hm := tokS_len hr ht
        obtain ⟨ts, hts, hO⟩ := ih _ _ _ _ h
        have hlen : ((skip false l).drop m).length = (skip false l).length - m := List.length_drop
        obtain ⟨d, hd⟩ : ∃ d, l.length - (skip false l).length = d := ⟨_, rfl⟩
        rw [hd] at hO
        have ge0 : ∀ i, i < ts.length → pos + d + m ≤ posAt ts i := fun i hi => (hO.ge i hi).1
        refine ⟨⟨k, t, n, pos + d⟩ :: ts, by rw [hts, hd]; simp, ⟨?_, ?_, ?_, ?_⟩⟩
        · obtain ⟨u, hu⟩ := hO.last
          refine ⟨⟨k, t, n, pos + d⟩ :: u, ?_⟩
          rw [hu, hlen, List.cons_append]
          congr 4
          omega
        · intro i hi
          cases i with
          | zero => simp only [posAt, List.getD_cons_zero]; omega
          | succ i =>
            have := hO.ge i (by simpa using hi)
            simp only [posAt, List.getD_cons_succ] at *
            omega
        · intro i hi
          cases i with
          | zero =>
            have := ge0 0 (by simpa using hi)
            simp only [posAt, List.getD_cons_zero, List.getD_cons_succ] at *
            omega
          | succ i =>
            have := hO.rise i (by simpa using hi)
            simpa only [posAt, List.getD_cons_succ] using this
        · intro i hi g acc' hg
          cases i with
          | zero =>
            simp only [posAt, List.getD_cons_zero, Nat.add_sub_cancel_left] at hg ⊢
            obtain ⟨g, rfl⟩ : ∃ m, g = m + 1 := ⟨g - 1, by omega⟩
            have hs : skip false (l.take d) = [] := by
              rw [skip_take false l d (by omega), hd, Nat.sub_self]
              rfl
            rw [allRun]
            simp only [hs, List.length_nil, Nat.sub_zero, List.length_take, if_true]
            rw [show min d l.length = d by omega]
            simp
          | succ i =>
            have hi' : i < ts.length := by simpa using hi
            have hge := ge0 i hi'
            have hle := (hO.ge i hi').2
            rw [hlen] at hle
            have hcut := hO.cut i hi'
            simp only [posAt, List.getD_cons_succ, List.take_succ_cons] at hg hcut hge hle ⊢
            generalize (ts.getD i ⟨0, [], 0, 0⟩).pos = p at *
            obtain ⟨g, rfl⟩ : ∃ m, g = m + 1 := ⟨g - 1, by omega⟩
            have hs : skip false (l.take (p - pos)) = (skip false l).take (p - pos - d) := by
              rw [skip_take false l _ (by omega), hd]
            have hne : (skip false l).take (p - pos - d) ≠ [] := by
              intro e
              have := congrArg List.length e
              rw [List.length_take, List.length_nil] at this
              omega
            have htk := tokS_take _ hr ht (p - pos - d) (by omega)
            rw [allRun]
            simp only [hs, if_neg hne, htk]
            have e1 : pos + ((l.take (p - pos)).length - ((skip false l).take (p - pos - d)).length) = pos + d := by
              rw [List.length_take, List.length_take]; omega
            rw [e1, List.drop_take]
            have h9 := hcut g (acc' ++ [⟨k, t, n, pos + d⟩]) (by omega)
            rw [show p - pos - d - m = p - (pos + d + m) by omega, h9]
            simp

theorem run_err (f : Nat) : ∀ (l : List UInt8) (pos : Nat) (acc : List Tok) (p e : Nat), l.length < f → allRun f l pos acc = .error (p, e) → pos ≤ p ∧ p < pos + l.length ∧ ∀ g acc', p - pos < g → ∃ ts, allRun g (l.take (p - pos)) pos acc' = .ok (acc' ++ ts ++ [⟨0, [], 0, p⟩]) := by
  induction f with
  | zero => intro l pos acc p e hf; omega
  | succ f ih =>
    intro l pos acc p e hf h
    have hsk := skip_len false l
    simp only [allRun] at h
    split at h
    · cases h
    · rename_i hr
      have hrl : 0 < (skip false l).length := List.length_pos_iff.2 hr
      split at h
      · rename_i e' he
        simp at h
        obtain ⟨rfl, rfl⟩ := h
        refine ⟨by omega, by omega, fun g acc' hg => ⟨[], ?_⟩⟩
        rw [Nat.add_sub_cancel_left] at hg ⊢
        obtain ⟨g, rfl⟩ : ∃ m, g = m + 1 := ⟨g - 1, by omega⟩
        obtain ⟨d, hd⟩ : ∃ d, l.length - (skip false l).length = d := ⟨_, rfl⟩
        rw [hd]
        have hs : skip false (l.take d) = [] := by
          rw [skip_take false l d (by omega), hd, Nat.sub_self]
          rfl
        rw [allRun]
        simp only [hs, List.length_nil, Nat.sub_zero, List.length_take, if_true]
        rw [show min d l.length = d by omega]
        simp
      · rename_i k t n m ht
        have hm := tokS_len hr ht
        have hlen : ((skip false l).drop m).length = (skip false l).length - m := List.length_drop
        obtain ⟨d, hd⟩ : ∃ d, l.length - (skip false l).length = d := ⟨_, rfl⟩
        rw [hd] at h
        obtain ⟨h1, h2, h3⟩ := ih _ _ _ _ _ (by omega) h
        rw [hlen] at h2
        refine ⟨by omega, by omega, fun g acc' hg => ?_⟩
        obtain ⟨g, rfl⟩ : ∃ m, g = m + 1 := ⟨g - 1, by omega⟩
        obtain ⟨ts, h9⟩ := h3 g (acc' ++ [⟨k, t, n, pos + d⟩]) (by omega)
        refine ⟨⟨k, t, n, pos + d⟩ :: ts, ?_⟩
        have hs : skip false (l.take (p - pos)) = (skip false l).take (p - pos - d) := by
          rw [skip_take false l _ (by omega), hd]
        have hne : (skip false l).take (p - pos - d) ≠ [] := by
          intro e
          have := congrArg List.length e
          rw [List.length_take, List.length_nil] at this
          omega
        have htk := tokS_take _ hr ht (p - pos - d) (by omega)
        rw [allRun]
        simp only [hs, if_neg hne, htk]
        have e1 : pos + ((l.take (p - pos)).length - ((skip false l).take (p - pos - d)).length) = pos + d := by
          rw [List.length_take, List.length_take]; omega
        rw [e1, List.drop_take, show p - pos - d - m = p - (pos + d + m) by omega, h9]
        simp

/-- a fault: where it is, and what stands ahead of it -/
theorem allS_err {l : List UInt8} {p e : Nat} (h : allS l = .error (p, e)) : (8192 < l.length ∧ p = 0 ∧ e = 160) ∨ (l.length ≤ 8192 ∧ e ≠ 160 ∧ p < l.length ∧ ∃ ts, allS (l.take p) = .ok (ts ++ [⟨0, [], 0, p⟩])) := by
  unfold allS at h
  split at h
  · rename_i h1
    simp at h
    exact .inl ⟨h1, h.1.symm, h.2.symm⟩
  · rename_i h1
    have h2 := run_err _ _ _ _ _ _ (by omega) h
    obtain ⟨-, h3, h4⟩ := h2
    obtain ⟨ts, h5⟩ := h4 ((l.take (p - 0)).length + 1) [] (by rw [List.length_take]; omega)
    refine .inr ⟨by omega, ?_, by omega, ts, ?_⟩
    · rintro rfl
      have key : ∀ f (l : List UInt8) pos acc p, allRun f l pos acc = .error (p, 160) → False := by
        intro f
        induction f with
        | zero => intro l pos acc p h; simp [allRun] at h
        | succ f ih =>
          intro l pos acc p h
          simp only [allRun] at h
          split at h
          · cases h
          · split at h
            · rename_i e' he
              simp at h
              obtain ⟨-, rfl⟩ := h
              unfold tokS at he
              simp only [] at he
              repeat' split at he
              all_goals simp at he
            · exact ih _ _ _ _ h
      exact key _ _ _ _ _ h
    · rw [allS, if_neg (by rw [List.length_take]; omega)]
      simpa [allFrom] using h5
theorem allS_okrun {l : List UInt8} {toks : List Tok} (h : allS l = .ok toks) : l.length ≤ 8192 ∧ OkRun l 0 toks := by
  unfold allS at h
  split at h
  · cases h
  · obtain ⟨ts, h1, h2⟩ := run_ok _ _ _ _ _ h
    rw [List.nil_append] at h1
    subst h1
    exact ⟨by omega, h2⟩
theorem allS_cut {l : List UInt8} {toks : List Tok} (h : allS l = .ok toks) {i : Nat} (hi : i < toks.length) : allS (l.take (posAt toks i)) = .ok (toks.take i ++ [⟨0, [], 0, posAt toks i⟩]) := by
  obtain ⟨h1, h2⟩ := allS_okrun h
  have h3 := h2.cut i hi ((l.take (posAt toks i)).length + 1) [] (by rw [List.length_take]; have := h2.ge i hi; omega)
  rw [allS, if_neg (by rw [List.length_take]; omega)]
  simpa [allFrom] using h3
end Go.Proofs.YtlnhhffhmeekoaaGreatDoor
namespace Go.Proofs.YtlnhhffhmeekoaaGreatDoor

/-- a byte that prolongs no token -/
structure Sep (d : UInt8) : Prop where
  word : isWord d = false
  pair : ∀ c : UInt8, pairs.contains [c, d] = false
  note : d.toNat ≠ 47
theorem pair_of {d : UInt8} (h : ∀ n : Fin 256, pairs.contains [UInt8.ofNat n.val, d] = false) (c : UInt8) : pairs.contains [c, d] = false := by
  have := h ⟨c.toNat, c.toNat_lt⟩
  simpa using this
theorem sep_nl : Sep 10 := ⟨by decide, pair_of (by decide +kernel), by decide⟩
theorem sep_semi : Sep 59 := ⟨by decide, pair_of (by decide +kernel), by decide⟩
section
variable {d : UInt8} (hd : Sep d) (x : List UInt8)
include hd
theorem wordLen_app (l : List UInt8) : wordLen (l ++ d :: x) = wordLen l := by
  induction l with
  | nil => simp [wordLen, hd.word]
  | cons c r ih =>
    by_cases h : isWord c = true
    · have e : ∀ y, wordLen (c :: y) = wordLen y + 1 := fun y => by simp [wordLen, h]
      rw [List.cons_append, e, e, ih]
    · have e : ∀ y, wordLen (c :: y) = 0 := fun y => by simp [wordLen, h]
      rw [List.cons_append, e, e]
theorem signS_app (l : List UInt8) (h : signS l ≠ []) : signS (l ++ d :: x) = signS l := by
  cases l with
  | nil => simp [signS, pairs, singles] at h
  | cons a l =>
    cases l with
    | nil =>
      unfold signS at *
      have e2 : ([a] ++ d :: x).take 2 = [a, d] := rfl
      have e1 : ([a] ++ d :: x).take 1 = [a] := rfl
      have e3 : ([a] : List UInt8).take 2 = [a] := rfl
      have e4 : pairs.contains [a] = false := by
        rw [Bool.eq_false_iff]; intro hc; have := pairs_len hc; simp at this
      rw [e3, e4] at h ⊢
      rw [e2, hd.pair a, e1]
      simp
    | cons b l =>
      unfold signS
      rfl
end
theorem escS_app {l : List UInt8} {b : UInt8} {n : Nat} (h : escS l = some (b, n)) (x : List UInt8) : escS (l ++ x) = some (b, n) := by
  match l, h with
  | [], h => simp [escS] at h
  | [c], h =>
    simp only [List.cons_append, List.nil_append, escS] at h ⊢
    split at h
    · rename_i h1; rw [if_pos h1]; exact h
    · rename_i h1
      rw [if_neg h1]
      split at h <;> simp at h
  | [c, y], h =>
    simp only [List.cons_append, List.nil_append, escS] at h ⊢
    split at h
    · rename_i h1; rw [if_pos h1]; exact h
    · rename_i h1
      rw [if_neg h1]
      split at h <;> simp at h
  | c :: y :: z :: l, h =>
    simp only [List.cons_append, escS] at h ⊢
    exact h
theorem pieceS_app {l : List UInt8} {b : UInt8} {n : Nat} (h : pieceS l = some (b, n)) (x : List UInt8) : pieceS (l ++ x) = some (b, n) := by
  cases l with
  | nil => simp [pieceS] at h
  | cons c r =>
    simp only [List.cons_append, pieceS] at h ⊢
    split at h
    · simp at h
    · rename_i h1
      rw [if_neg h1]
      split at h
      · rename_i h2; rw [if_pos h2]; exact h
      · rename_i h2; rw [if_neg h2]; exact escS_app h x
theorem qrun_app (f : Nat) : ∀ (l acc b r : List UInt8) (x : List UInt8), qrun f l acc = some (b, r) → qrun f (l ++ x) acc = some (b, r ++ x) := by
  induction f with
  | zero => intro l acc b r x h; simp [qrun] at h
  | succ f ih =>
    intro l acc b r x h
    cases l with
    | nil => simp [qrun] at h
    | cons c l =>
      simp only [List.cons_append, qrun] at h ⊢
      split at h
      · rename_i h1
        rw [if_pos h1]
        simp at h
        obtain ⟨rfl, rfl⟩ := h
        rfl
      · rename_i h1
        rw [if_neg h1]
        split at h
        · simp at h
        · rename_i h2
          rw [if_neg h2]
          split at h
          · simp at h
          · rename_i b' n hp
            have hn := pieceS_pos hp
            have h3 := pieceS_app hp x
            rw [List.cons_append] at h3
            rw [h3]
            have h4 := ih _ _ _ _ x h
            rw [← List.drop_append_of_le_length (by omega), List.cons_append] at h4
            exact h4
theorem qrun_more (f : Nat) : ∀ (g : Nat) (l acc : List UInt8) (v : List UInt8 × List UInt8), qrun f l acc = some v → f ≤ g → qrun g l acc = some v := by
  induction f with
  | zero => intro g l acc v h; simp [qrun] at h
  | succ f ih =>
    intro g l acc v h hg
    obtain ⟨g, rfl⟩ : ∃ m, g = m + 1 := ⟨g - 1, by omega⟩
    cases l with
    | nil => simp [qrun] at h
    | cons c l =>
      simp only [qrun] at h ⊢
      split at h
      · rename_i h1; rw [if_pos h1]; exact h
      · rename_i h1
        rw [if_neg h1]
        split at h
        · simp at h
        · rename_i h2
          rw [if_neg h2]
          split at h
          · simp at h
          · rename_i b' n hp
            exact ih g _ _ _ h (by omega)
theorem tokS_app {d : UInt8} (hd : Sep d) (x : List UInt8) {l : List UInt8} {k n m : Nat} {t : List UInt8} (hl : l ≠ []) (h : tokS l = .ok (k, t, n, m)) : tokS (l ++ d :: x) = .ok (k, t, n, m) := by
  have hh : (l ++ d :: x).headD 0 = l.headD 0 := by cases l with
    | nil => exact absurd rfl hl
    | cons c r => rfl
  have hw := wordLen_le l
  have hword : (l ++ d :: x).take (wordLen (l ++ d :: x)) = l.take (wordLen l) := by
    rw [wordLen_app hd, List.take_append_of_le_length hw]
  unfold tokS at h ⊢
  simp only [hh, hword] at h ⊢
  split at h
  · rename_i h1
    rw [if_pos h1]
    exact h
  · rename_i h1
    rw [if_neg h1]
    split at h
    · rename_i h2
      rw [if_pos h2]
      exact h
    · rename_i h2
      rw [if_neg h2]
      split at h
      · rename_i h3
        rw [if_pos h3]
        split at h
        · rename_i b r hb
          cases l with
          | nil => exact absurd rfl hl
          | cons c l' =>
            simp only [List.tail_cons, List.cons_append, List.length_cons] at *
            have h5 := qrun_app _ _ _ _ _ (d :: x) (show qrun (l'.length + 1) l' [] = some (b, r) from hb)
            have h6 : quoS (l' ++ d :: x) [] = some (b, r ++ d :: x) := by
              rw [quoS]
              exact qrun_more _ _ _ _ _ h5 (by simp only [List.length_append]; omega)
            rw [h6]
            simp only [List.length_append, List.length_cons] at h ⊢
            obtain ⟨h7, h8, h9, h10⟩ := by simpa using h
            subst h7 h8 h9
            congr 4
            omega
        · simp at h
      · rename_i h3
        rw [if_neg h3]
        split at h
        · simp at h
        · rename_i h4
          rw [signS_app hd x l h4, if_neg h4]
          exact h
theorem skip_app {d : UInt8} (hd : Sep d) (x : List UInt8) (b : Bool) (l : List UInt8) : (skip b l ≠ [] → skip b (l ++ d :: x) = skip b l ++ d :: x) ∧ (skip b l = [] → ∃ b', skip b (l ++ d :: x) = skip b' (d :: x)) := by
  induction l generalizing b with
  | nil => exact ⟨fun h => by simp [skip] at h, fun _ => ⟨b, rfl⟩⟩
  | cons c r ih =>
    cases b with
    | true =>
      simp only [List.cons_append, skip]
      split
      · exact ih false
      · exact ih true
    | false =>
      simp only [List.cons_append, skip]
      split
      · exact ih false
      · by_cases hn : c.toNat = 47 ∧ r.head? = some 47
        · have hn' : c.toNat = 47 ∧ (r ++ d :: x).head? = some 47 := by
            refine ⟨hn.1, ?_⟩
            cases r with
            | nil => simp at hn
            | cons y r => simpa using hn.2
          rw [if_pos hn, if_pos hn']
          exact ih true
        · have hn' : ¬ (c.toNat = 47 ∧ (r ++ d :: x).head? = some 47) := by
            rintro ⟨h1, h2⟩
            cases r with
            | nil =>
              simp at h2
              exact hd.note (by rw [h2]; rfl)
            | cons y r => exact hn ⟨h1, by simpa using h2⟩
          rw [if_neg hn, if_neg hn']
          exact ⟨fun _ => rfl, fun h => by simp at h⟩
theorem run_app {d : UInt8} (hd : Sep d) (x : List UInt8) (f : Nat) : ∀ (l : List UInt8) (pos : Nat) (acc toks : List Tok), allRun f l pos acc = .ok toks → l.length < f →
    ∃ ts b, toks = acc ++ ts ++ [⟨0, [], 0, pos + l.length⟩] ∧ allFrom (l ++ d :: x) pos acc = allFrom (skip b (d :: x)) (pos + l.length + ((d :: x).length - (skip b (d :: x)).length)) (acc ++ ts) := by
  induction f with
  | zero => intro l pos acc toks h; simp [allRun] at h
  | succ f ih =>
    intro l pos acc toks h hf
    have hsk := skip_len false l
    have hidem : skip false (skip false l) = skip false l := by
      have key : ∀ (b : Bool) (l : List UInt8), skip false (skip b l) = skip b l := by
        intro b l
        induction l generalizing b with
        | nil => simp [skip]
        | cons c r ih =>
          cases b <;> simp only [skip]
          · split
            · exact ih false
            · split
              · exact ih true
              · rename_i h1 h2
                simp only [skip, if_neg h1, if_neg h2]
          · split
            · exact ih false
            · exact ih true
      exact key false l
    simp only [allRun] at h
    split at h
    · rename_i hr
      injection h with h
      obtain ⟨b, hb⟩ := (skip_app hd x false l).2 hr
      have hbl := skip_len b (d :: x)
      refine ⟨[], b, by rw [← h, hr]; simp, ?_⟩
      rw [allFrom_skip, hb, List.append_nil]
      congr 1
      simp only [List.length_append]
      omega
    · rename_i hr
      split at h
      · simp at h
      · rename_i k t n m ht
        have hm := tokS_len hr ht
        obtain ⟨ts, b, h1, h2⟩ := ih _ _ _ _ h (by simp only [List.length_drop]; omega)
        have el : pos + (l.length - (skip false l).length) + m + (List.drop m (skip false l)).length = pos + l.length := by simp only [List.length_drop]; omega
        refine ⟨⟨k, t, n, pos + (l.length - (skip false l).length)⟩ :: ts, b, ?_, ?_⟩
        · rw [h1, el]
          simp
        · have e := (skip_app hd x false l).1 hr
          rw [allFrom_skip, e]
          have e2 := (skip_app hd x false (skip false l)).1 (by rw [hidem]; exact hr)
          rw [hidem] at e2
          rw [allFrom_tok (by simp) e2 (tokS_app hd x hr ht), List.drop_append_of_le_length hm.2]
          have ep : pos + ((l ++ d :: x).length - (skip false l ++ d :: x).length) = pos + (l.length - (skip false l).length) := by simp only [List.length_append]; omega
          rw [ep, h2]
          rw [el]
          simp
end Go.Proofs.YtlnhhffhmeekoaaGreatDoor
namespace Go.Proofs.YtlnhhffhmeekoaaGreatDoor

theorem tokS_bnd {l : List UInt8} {k n m : Nat} {t : List UInt8} (h : tokS l = .ok (k, t, n, m)) : 1 ≤ k ∧ k ≤ 5 ∧ t.length ≤ l.length ∧ n < 9223372036854775808 := by
  have hw : (l.take (wordLen l)).length ≤ l.length := by rw [List.length_take]; omega
  unfold tokS at h
  simp only [] at h
  split at h
  · split at h
    · injection h with h
      obtain ⟨rfl, rfl, rfl, -⟩ := (by simpa using h : 2 = k ∧ l.take (wordLen l) = t ∧ 0 = n ∧ _)
      exact ⟨by omega, by omega, hw, by omega⟩
    · split at h
      · cases h
      · injection h with h
        obtain ⟨rfl, rfl, rfl, -⟩ := (by simpa using h : 1 = k ∧ l.take (wordLen l) = t ∧ 0 = n ∧ _)
        exact ⟨by omega, by omega, hw, by omega⟩
  · split at h
    · split at h
      · rename_i v hv
        injection h with h
        obtain ⟨rfl, rfl, rfl, -⟩ := (by simpa using h : 3 = k ∧ [] = t ∧ v = n ∧ _)
        unfold numS at hv
        split at hv
        · rename_i hc
          injection hv with hv
          exact ⟨by omega, by omega, by simp, by omega⟩
        · cases hv
      · cases h
    · split at h
      · split at h
        · rename_i b r hq
          have hl := quoS_len hq
          injection h with h
          obtain ⟨rfl, rfl, rfl, -⟩ := (by simpa using h : 4 = k ∧ b = t ∧ 0 = n ∧ _)
          simp at hl
          exact ⟨by omega, by omega, by omega, by omega⟩
        · cases h
      · split at h
        · cases h
        · have hl := signS_len l ‹_›
          injection h with h
          obtain ⟨rfl, rfl, rfl, -⟩ := (by simpa using h : 5 = k ∧ signS l = t ∧ 0 = n ∧ _)
          exact ⟨by omega, by omega, hl.2, by omega⟩
theorem tokS_ne0 {l : List UInt8} {e : Nat} (h : tokS l = .error e) : e ≠ 0 := by
  unfold tokS at h
  simp only [] at h
  repeat' split at h
  all_goals simp at h
  all_goals omega
/-- the tokens of a source: none of the end's kind but the last; each within bounds -/
theorem run_bnd (f : Nat) : ∀ (l : List UInt8) (pos : Nat) (acc toks : List Tok), allRun f l pos acc = .ok toks → ∃ u p, toks = acc ++ (u ++ [⟨0, [], 0, p⟩]) ∧ p ≤ pos + l.length ∧ u.length ≤ l.length ∧
    ∀ t ∈ u, 1 ≤ t.kind ∧ t.kind ≤ 5 ∧ t.text.length ≤ l.length ∧ t.n < 9223372036854775808 ∧ t.pos ≤ pos + l.length := by
  induction f with
  | zero => intro l pos acc toks h; simp [allRun] at h
  | succ f ih =>
    intro l pos acc toks h
    have hsk := skip_len false l
    simp only [allRun] at h
    split at h
    · injection h with h
      exact ⟨[], _, h.symm, by omega, by simp, fun t ht => by cases ht⟩
    · rename_i hr
      split at h
      · cases h
      · rename_i k t n m ht
        have hm := tokS_len hr ht
        have hb := tokS_bnd ht
        obtain ⟨u, p, h1, h2, h3, h4⟩ := ih _ _ _ _ h
        rw [List.length_drop] at h2 h3
        refine ⟨⟨k, t, n, pos + (l.length - (skip false l).length)⟩ :: u, p, by rw [h1]; simp, by omega, by rw [List.length_cons]; omega, fun x hx => ?_⟩
        rcases List.mem_cons.1 hx with rfl | hx
        · exact ⟨hb.1, hb.2.1, by have := hb.2.2.1; show t.length ≤ _; omega, hb.2.2.2, by show pos + (l.length - (skip false l).length) ≤ _; omega⟩
        · have := h4 x hx
          rw [List.length_drop] at this
          omega
theorem run_ne0 (f : Nat) : ∀ (l : List UInt8) (pos : Nat) (acc : List Tok) (p : Nat), l.length < f → allRun f l pos acc ≠ .error (p, 0) := by
  induction f with
  | zero => intro l pos acc p hf; omega
  | succ f ih =>
    intro l pos acc p hf h
    simp only [allRun] at h
    split at h
    · cases h
    · rename_i hr
      split at h
      · rename_i e' he
        simp at h
        obtain ⟨-, rfl⟩ := h
        exact tokS_ne0 he rfl
      · rename_i k t n m ht
        have := tokS_len hr ht
        have := skip_len false l
        exact ih _ _ _ _ (by rw [List.length_drop]; omega) h
theorem allS_ne0 {l : List UInt8} {p e : Nat} (h : allS l = .error (p, e)) : e ≠ 0 := by
  rintro rfl
  unfold allS at h
  split at h
  · simp at h
  · exact run_ne0 _ _ _ _ _ (by omega) h
theorem allS_bnd {l : List UInt8} {toks : List Tok} (h : allS l = .ok toks) : l.length ≤ 8192 ∧ ∃ u p, toks = u ++ [⟨0, [], 0, p⟩] ∧ p ≤ 8192 ∧ u.length ≤ 8192 ∧ ∀ t ∈ u, 1 ≤ t.kind ∧ t.kind ≤ 5 ∧ t.text.length ≤ 8192 ∧ t.n < 9223372036854775808 ∧ t.pos ≤ 8192 := by
  unfold allS at h
  split at h
  · cases h
  · obtain ⟨u, p, h1, h2, h3, h4⟩ := run_bnd _ _ _ _ _ h
    refine ⟨by omega, u, p, by simpa using h1, by omega, by omega, fun t ht => ?_⟩
    have := h4 t ht
    omega
end Go.Proofs.YtlnhhffhmeekoaaGreatDoor
