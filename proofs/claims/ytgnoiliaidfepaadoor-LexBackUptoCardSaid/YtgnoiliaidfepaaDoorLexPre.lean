/- Plain law: a text up to the place of one of its tokens, or of its fault, reads as the whole text reads up to there. -/
import Derived.Test.YtgnoiliaidfepaaDoorLexTokSpec
set_option linter.unusedVariables false
set_option linter.unusedSimpArgs false
namespace Go.Proofs.YtgnoiliaidfepaaDoor

theorem skip_take (b : Bool) (l : List UInt8) : ∀ q, l.length - (skip b l).length ≤ q → skip b (l.take q) = (skip b l).take (q - (l.length - (skip b l).length)) := by
  induction l generalizing b with
  | nil => intro q _; simp [skip]
  | cons c r ih =>
    intro q hq
    have h1 := skip_len false r
    have h2 := skip_len true r
    have key : ∀ b' : Bool, (c :: r).length - (skip b' r).length ≤ q → skip b' (r.take (q - 1)) = (skip b' r).take (q - ((c :: r).length - (skip b' r).length)) ∧ 0 < q := by
      intro b' h
      have h3 := skip_len b' r
      simp only [List.length_cons] at h ⊢
      rw [ih b' (q - 1) (by omega)]
      refine ⟨?_, by omega⟩
      congr 1
      omega
    cases b
    · simp only [skip] at hq ⊢
      by_cases hb : isBlank c = true
      · rw [if_pos hb] at hq ⊢
        obtain ⟨e, hp⟩ := key false hq
        obtain ⟨q, rfl⟩ : ∃ m, q = m + 1 := ⟨q - 1, by omega⟩
        rw [List.take_succ_cons, skip, if_pos hb]
        exact e
      · rw [if_neg hb] at hq ⊢
        by_cases hn : c.toNat = 47 ∧ r.head? = some 47
        · rw [if_pos hn] at hq ⊢
          obtain ⟨e, hp⟩ := key true hq
          obtain ⟨q, rfl⟩ : ∃ m, q = m + 1 := ⟨q - 1, by omega⟩
          have hr : (r.take q).head? = some 47 := by
            cases r with
            | nil => simp at hn
            | cons d r' =>
              have hd : d = 47 := by simpa using hn.2
              subst hd
              have : skip true (47 :: r') = skip true r' := by simp [skip]
              rw [this] at hq
              have := skip_len true r'
              simp only [List.length_cons] at hq
              obtain ⟨q, rfl⟩ : ∃ m, q = m + 1 := ⟨q - 1, by omega⟩
              simp
          rw [List.take_succ_cons, skip, if_neg hb, if_pos ⟨hn.1, hr⟩]
          exact e
        · rw [if_neg hn] at hq ⊢
          rw [Nat.sub_self, Nat.sub_zero]
          cases q with
          | zero => simp [skip]
          | succ q =>
            rw [List.take_succ_cons, skip, if_neg hb, if_neg]
            rintro ⟨h, h'⟩
            refine hn ⟨h, ?_⟩
            cases r with
            | nil => simp at h'
            | cons d r' =>
              cases q with
              | zero => simp at h'
              | succ q => simpa using h'
    · simp only [skip] at hq ⊢
      by_cases hb : c.toNat = 10
      · rw [if_pos hb] at hq ⊢
        obtain ⟨e, hp⟩ := key false hq
        obtain ⟨q, rfl⟩ : ∃ m, q = m + 1 := ⟨q - 1, by omega⟩
        rw [List.take_succ_cons, skip, if_pos hb]
        exact e
      · rw [if_neg hb] at hq ⊢
        obtain ⟨e, hp⟩ := key true hq
        obtain ⟨q, rfl⟩ : ∃ m, q = m + 1 := ⟨q - 1, by omega⟩
        rw [List.take_succ_cons, skip, if_neg hb]
        exact e

theorem wordLen_take (l : List UInt8) : ∀ q, wordLen l ≤ q → wordLen (l.take q) = wordLen l := by
  induction l with
  | nil => intro q _; simp
  | cons c r ih =>
    intro q hq
    by_cases h : isWord c = true
    · have e : ∀ x, wordLen (c :: x) = wordLen x + 1 := fun x => by simp [wordLen, h]
      rw [e] at hq ⊢
      obtain ⟨q, rfl⟩ : ∃ m, q = m + 1 := ⟨q - 1, by omega⟩
      rw [List.take_succ_cons, e, ih q (by omega)]
    · have e : ∀ x, wordLen (c :: x) = 0 := fun x => by simp [wordLen, h]
      rw [e] at hq ⊢
      cases q with
      | zero => rfl
      | succ q => rw [List.take_succ_cons, e]

theorem escS_take (l : List UInt8) {b : UInt8} {n : Nat} (h : escS l = some (b, n)) : ∀ q, n ≤ q + 1 → escS (l.take q) = some (b, n) := by
  intro q hq
  have hp := escS_pos h
  cases l with
  | nil => simp [escS] at h
  | cons d r =>
    unfold escS at h
    simp only [] at h
    split at h
    · rename_i hd
      simp at h
      obtain ⟨rfl, rfl⟩ := h
      obtain ⟨q, rfl⟩ : ∃ m, q = m + 1 := ⟨q - 1, by omega⟩
      rw [List.take_succ_cons]
      unfold escS
      simp only []
      rw [if_pos hd]
    · rename_i hd
      split at h
      · rename_i hx
        split at h
        · rename_i x y r'
          split at h
          · rename_i a b' ha hb
            simp only [Option.some.injEq, Prod.mk.injEq] at h
            obtain ⟨rfl, rfl⟩ := h
            obtain ⟨q, rfl⟩ : ∃ m, q = m + 3 := ⟨q - 3, by omega⟩
            simp only [List.take_succ_cons]
            unfold escS
            simp only []
            rw [if_neg hd, if_pos hx]
            simp only [ha, hb]
          · simp at h
        · simp at h
      · simp at h
theorem pieceS_take (l : List UInt8) {b : UInt8} {n : Nat} (h : pieceS l = some (b, n)) : ∀ q, n ≤ q → pieceS (l.take q) = some (b, n) := by
  intro q hq
  have hp := pieceS_pos h
  cases l with
  | nil => simp [pieceS] at h
  | cons c r =>
    obtain ⟨q, rfl⟩ : ∃ m, q = m + 1 := ⟨q - 1, by omega⟩
    rw [List.take_succ_cons]
    unfold pieceS at h ⊢
    simp only [] at h ⊢
    split at h
    · simp at h
    · rename_i h1
      rw [if_neg h1]
      split at h
      · rename_i h2
        rw [if_pos h2]
        exact h
      · rename_i h2
        rw [if_neg h2]
        exact escS_take r h q (by omega)
theorem qrun_take (f : Nat) : ∀ (l acc b r : List UInt8), qrun f l acc = some (b, r) → ∀ q, l.length - r.length ≤ q → qrun f (l.take q) acc = some (b, r.take (q - (l.length - r.length))) := by
  induction f with
  | zero => intro l acc b r h; simp [qrun] at h
  | succ f ih =>
    intro l acc b r h q hq
    have hl := quoS_len h
    cases l with
    | nil => simp [qrun] at h
    | cons c l =>
      obtain ⟨q, rfl⟩ : ∃ m, q = m + 1 := ⟨q - 1, by simp only [List.length_cons] at *; omega⟩
      simp only [qrun] at h
      split at h
      · rename_i h1
        simp at h
        obtain ⟨rfl, rfl⟩ := h
        rw [List.take_succ_cons, qrun, if_pos h1]
        simp
      · rename_i h1
        split at h
        · simp at h
        · rename_i h2
          split at h
          · simp at h
          · rename_i b' n hp
            have hn := pieceS_pos hp
            have hd := quoS_len h
            simp only [List.length_drop, List.length_cons] at hd hn hq
            have h3 := pieceS_take (c :: l) hp (q + 1) (by omega)
            have h4 := ih _ _ _ _ h (q + 1 - n) (by simp only [List.length_drop, List.length_cons]; omega)
            rw [List.take_succ_cons] at h3 ⊢
            simp only [qrun, if_neg h1, if_neg h2, h3]
            rw [← List.take_succ_cons, List.drop_take, h4]
            simp only [List.length_drop, List.length_cons]
            congr 3
            omega

theorem headD_take (l : List UInt8) (q : Nat) (h : 0 < q) : (l.take q).headD 0 = l.headD 0 := by
  obtain ⟨q, rfl⟩ : ∃ m, q = m + 1 := ⟨q - 1, by omega⟩
  cases l <;> rfl
theorem pairs_len {x : List UInt8} (h : pairs.contains x = true) : x.length = 2 := by
  have : x ∈ pairs := by simpa using h
  revert this x
  simp [pairs]
theorem signS_take (l : List UInt8) (h : signS l ≠ []) : ∀ q, (signS l).length ≤ q → signS (l.take q) = signS l := by
  intro q hq
  have hl := signS_len l h
  have hh := headD_take l q (by omega)
  unfold signS at *
  by_cases hp : pairs.contains (l.take 2) = true
  · have := pairs_len hp
    rw [if_pos hp] at hq ⊢
    have e : (l.take q).take 2 = l.take 2 := by rw [List.take_take]; congr 1; omega
    rw [e, if_pos hp]
  · rw [if_neg hp] at h hq ⊢
    split at hq
    · rename_i hs
      rw [if_pos hs] at hl ⊢
      have h1 : (l.take 1).length = 1 := by rw [List.length_take] at *; omega
      have e1 : (l.take q).take 1 = l.take 1 := by rw [List.take_take]; congr 1; omega
      by_cases h2 : 2 ≤ q
      · have e : (l.take q).take 2 = l.take 2 := by rw [List.take_take]; congr 1; omega
        rw [e, if_neg hp, hh, if_pos hs, e1]
      · obtain rfl : q = 1 := by omega
        have e : (l.take 1).take 2 = l.take 1 := by rw [List.take_take]; rfl
        rw [e, if_neg (fun hc => by have := pairs_len hc; omega), hh, if_pos hs, e1]
    · rename_i hs
      rw [if_neg hs] at h
      exact absurd rfl h

theorem tokS_take (l : List UInt8) {k n m : Nat} {t : List UInt8} (hl : l ≠ []) (h : tokS l = .ok (k, t, n, m)) : ∀ q, m ≤ q → tokS (l.take q) = .ok (k, t, n, m) := by
  intro q hq
  have hm := tokS_len hl h
  have hh := headD_take l q (by omega)
  have hw := wordLen_le l
  have ht : (l.take (wordLen l)).length = wordLen l := by rw [List.length_take]; omega
  unfold tokS at h ⊢
  simp only [hh] at h ⊢
  have hword : wordLen l ≤ q → (l.take q).take (wordLen (l.take q)) = l.take (wordLen l) := by
    intro hq'
    rw [wordLen_take l q hq', List.take_take]
    congr 1
    omega
  split at h
  · rename_i h1
    rw [if_pos h1]
    split at h
    · rename_i h2
      simp at h
      rw [hword (by omega), if_pos h2]
      obtain ⟨rfl, rfl, rfl, rfl⟩ := h
      simp
    · rename_i h2
      split at h
      · simp at h
      · rename_i h3
        simp at h
        rw [hword (by omega), if_neg h2, if_neg h3]
        obtain ⟨rfl, rfl, rfl, rfl⟩ := h
        simp
  · rename_i h1
    rw [if_neg h1]
    split at h
    · rename_i h2
      rw [if_pos h2]
      split at h
      · rename_i nn hn
        simp at h
        rw [hword (by omega), hn]
        obtain ⟨rfl, rfl, rfl, rfl⟩ := h
        simp
      · simp at h
    · rename_i h2
      rw [if_neg h2]
      split at h
      · rename_i h3
        rw [if_pos h3]
        split at h
        · rename_i b r hb
          simp at h
          have hb' := hb
          unfold quoS at hb'
          have hle := quoS_len hb'
          cases l with
          | nil => exact absurd rfl hl
          | cons c l' =>
            simp only [List.tail_cons, List.length_cons] at *
            obtain ⟨q, rfl⟩ : ∃ m, q = m + 1 := ⟨q - 1, by omega⟩
            have h5 := qrun_take _ _ _ _ _ hb' q (by omega)
            have h6 : quoS (l'.take q) [] = some (b, r.take (q - (l'.length - r.length))) := by
              rw [quoS, ← h5]
              apply qrun_fuel
              · omega
              · rw [List.length_take]; omega
            rw [List.take_succ_cons, List.tail_cons, h6]
            simp only [List.length_cons, List.length_take]
            obtain ⟨h7, h8, h9, h10⟩ := h
            subst h7 h8 h9
            congr 4
            omega
        · simp at h
      · rename_i h3
        rw [if_neg h3]
        split at h
        · simp at h
        · rename_i h4
          simp at h
          have := signS_take l h4 q (by omega)
          rw [this, if_neg h4]
          obtain ⟨rfl, rfl, rfl, rfl⟩ := h
          simp

/-- what a source's tokens are, one behind the other, and that each beginning reads alike -/
def posAt (ts : List Tok) (i : Nat) : Nat := (ts.getD i ⟨0, [], 0, 0⟩).pos
structure OkRun (l : List UInt8) (pos : Nat) (ts : List Tok) : Prop where
  last : ∃ u, ts = u ++ [⟨0, [], 0, pos + l.length⟩]
  ge : ∀ i, i < ts.length → pos ≤ posAt ts i ∧ posAt ts i ≤ pos + l.length
  rise : ∀ i, i + 1 < ts.length → posAt ts i < posAt ts (i + 1)
  cut : ∀ i, i < ts.length → ∀ g acc, posAt ts i - pos < g → allRun g (l.take (posAt ts i - pos)) pos acc = .ok (acc ++ ts.take i ++ [⟨0, [], 0, posAt ts i⟩])
theorem run_ok (f : Nat) : ∀ (l : List UInt8) (pos : Nat) (acc toks : List Tok), allRun f l pos acc = .ok toks → ∃ ts, toks = acc ++ ts ∧ OkRun l pos ts := by
  induction f with
  | zero => intro l pos acc toks h; simp [allRun] at h
  | succ f ih =>
    intro l pos acc toks h
    have hsk := skip_len false l
    simp only [allRun] at h
    split at h
    · rename_i hr
      injection h with h
      refine ⟨[⟨0, [], 0, pos + l.length⟩], by rw [← h, hr]; simp, ⟨⟨[], rfl⟩, ?_, ?_, ?_⟩⟩
      · intro i hi
        obtain rfl : i = 0 := by simpa using hi
        simp [posAt]
      · intro i hi; simp at hi
      · intro i hi g acc' hg
        obtain rfl : i = 0 := by simpa using hi
        simp only [posAt, List.getD_cons_zero, Nat.add_sub_cancel_left] at hg ⊢
        obtain ⟨g, rfl⟩ : ∃ m, g = m + 1 := ⟨g - 1, by omega⟩
        rw [List.take_length, allRun]
        simp [hr]
    · rename_i hr
      split at h
      · cases h
      · rename_i k t n m ht
        have hm := tokS_len hr ht
        obtain ⟨ts, hts, hO⟩ := ih _ _ _ _ h
        have hlen : ((skip false l).drop m).length = (skip false l).length - m := List.length_drop
        obtain ⟨d, hd⟩ : ∃ d, l.length - (skip false l).length = d := ⟨_, rfl⟩
        rw [hd] at hO
        have ge0 : ∀ i, i < ts.length → pos + d + m ≤ posAt ts i := fun i hi => (hO.ge i hi).1
        refine ⟨⟨k, t, n, pos + d⟩ :: ts, by rw [hts, hd]; simp, ⟨?_, ?_, ?_, ?_⟩⟩
        · obtain ⟨u, hu⟩ := hO.last
          refine ⟨⟨k, t, n, pos + d⟩ :: u, ?_⟩
          rw [hu, hlen, List.cons_append]
          congr 4
          omega
        · intro i hi
          cases i with
          | zero => simp only [posAt, List.getD_cons_zero]; omega
          | succ i =>
            have := hO.ge i (by simpa using hi)
            simp only [posAt, List.getD_cons_succ] at *
            omega
        · intro i hi
          cases i with
          | zero =>
            have := ge0 0 (by simpa using hi)
            simp only [posAt, List.getD_cons_zero, List.getD_cons_succ] at *
            omega
          | succ i =>
            have := hO.rise i (by simpa using hi)
            simpa only [posAt, List.getD_cons_succ] using this
        · intro i hi g acc' hg
          cases i with
          | zero =>
            simp only [posAt, List.getD_cons_zero, Nat.add_sub_cancel_left] at hg ⊢
            obtain ⟨g, rfl⟩ : ∃ m, g = m + 1 := ⟨g - 1, by omega⟩
            have hs : skip false (l.take d) = [] := by
              rw [skip_take false l d (by omega), hd, Nat.sub_self]
              rfl
            rw [allRun]
            simp only [hs, List.length_nil, Nat.sub_zero, List.length_take, if_true]
            rw [show min d l.length = d by omega]
            simp
          | succ i =>
            have hi' : i < ts.length := by simpa using hi
            have hge := ge0 i hi'
            have hle := (hO.ge i hi').2
            rw [hlen] at hle
            have hcut := hO.cut i hi'
            simp only [posAt, List.getD_cons_succ, List.take_succ_cons] at hg hcut hge hle ⊢
            generalize (ts.getD i ⟨0, [], 0, 0⟩).pos = p at *
            obtain ⟨g, rfl⟩ : ∃ m, g = m + 1 := ⟨g - 1, by omega⟩
            have hs : skip false (l.take (p - pos)) = (skip false l).take (p - pos - d) := by
              rw [skip_take false l _ (by omega), hd]
            have hne : (skip false l).take (p - pos - d) ≠ [] := by
              intro e
              have := congrArg List.length e
              rw [List.length_take, List.length_nil] at this
              omega
            have htk := tokS_take _ hr ht (p - pos - d) (by omega)
            rw [allRun]
            simp only [hs, if_neg hne, htk]
            have e1 : pos + ((l.take (p - pos)).length - ((skip false l).take (p - pos - d)).length) = pos + d := by
              rw [List.length_take, List.length_take]; omega
            rw [e1, List.drop_take]
            have h9 := hcut g (acc' ++ [⟨k, t, n, pos + d⟩]) (by omega)
            rw [show p - pos - d - m = p - (pos + d + m) by omega, h9]
            simp

theorem run_err (f : Nat) : ∀ (l : List UInt8) (pos : Nat) (acc : List Tok) (p e : Nat), l.length < f → allRun f l pos acc = .error (p, e) → pos ≤ p ∧ p < pos + l.length ∧ ∀ g acc', p - pos < g → ∃ ts, allRun g (l.take (p - pos)) pos acc' = .ok (acc' ++ ts ++ [⟨0, [], 0, p⟩]) := by
  induction f with
  | zero => intro l pos acc p e hf; omega
  | succ f ih =>
    intro l pos acc p e hf h
    have hsk := skip_len false l
    simp only [allRun] at h
    split at h
    · cases h
    · rename_i hr
      have hrl : 0 < (skip false l).length := List.length_pos_iff.2 hr
      split at h
      · rename_i e' he
        simp at h
        obtain ⟨rfl, rfl⟩ := h
        refine ⟨by omega, by omega, fun g acc' hg => ⟨[], ?_⟩⟩
        rw [Nat.add_sub_cancel_left] at hg ⊢
        obtain ⟨g, rfl⟩ : ∃ m, g = m + 1 := ⟨g - 1, by omega⟩
        obtain ⟨d, hd⟩ : ∃ d, l.length - (skip false l).length = d := ⟨_, rfl⟩
        rw [hd]
        have hs : skip false (l.take d) = [] := by
          rw [skip_take false l d (by omega), hd, Nat.sub_self]
          rfl
        rw [allRun]
        simp only [hs, List.length_nil, Nat.sub_zero, List.length_take, if_true]
        rw [show min d l.length = d by omega]
        simp
      · rename_i k t n m ht
        have hm := tokS_len hr ht
        have hlen : ((skip false l).drop m).length = (skip false l).length - m := List.length_drop
        obtain ⟨d, hd⟩ : ∃ d, l.length - (skip false l).length = d := ⟨_, rfl⟩
        rw [hd] at h
        obtain ⟨h1, h2, h3⟩ := ih _ _ _ _ _ (by omega) h
        rw [hlen] at h2
        refine ⟨by omega, by omega, fun g acc' hg => ?_⟩
        obtain ⟨g, rfl⟩ : ∃ m, g = m + 1 := ⟨g - 1, by omega⟩
        obtain ⟨ts, h9⟩ := h3 g (acc' ++ [⟨k, t, n, pos + d⟩]) (by omega)
        refine ⟨⟨k, t, n, pos + d⟩ :: ts, ?_⟩
        have hs : skip false (l.take (p - pos)) = (skip false l).take (p - pos - d) := by
          rw [skip_take false l _ (by omega), hd]
        have hne : (skip false l).take (p - pos - d) ≠ [] := by
          intro e
          have := congrArg List.length e
          rw [List.length_take, List.length_nil] at this
          omega
        have htk := tokS_take _ hr ht (p - pos - d) (by omega)
        rw [allRun]
        simp only [hs, if_neg hne, htk]
        have e1 : pos + ((l.take (p - pos)).length - ((skip false l).take (p - pos - d)).length) = pos + d := by
          rw [List.length_take, List.length_take]; omega
        rw [e1, List.drop_take, show p - pos - d - m = p - (pos + d + m) by omega, h9]
        simp

/-- a fault: where it is, and what stands ahead of it -/
theorem allS_err {l : List UInt8} {p e : Nat} (h : allS l = .error (p, e)) : (8192 < l.length ∧ p = 0 ∧ e = 160) ∨ (l.length ≤ 8192 ∧ e ≠ 160 ∧ p < l.length ∧ ∃ ts, allS (l.take p) = .ok (ts ++ [⟨0, [], 0, p⟩])) := by
  unfold allS at h
  split at h
  · rename_i h1
    simp at h
    exact .inl ⟨h1, h.1.symm, h.2.symm⟩
  · rename_i h1
    have h2 := run_err _ _ _ _ _ _ (by omega) h
    obtain ⟨-, h3, h4⟩ := h2
    obtain ⟨ts, h5⟩ := h4 ((l.take (p - 0)).length + 1) [] (by rw [List.length_take]; omega)
    refine .inr ⟨by omega, ?_, by omega, ts, ?_⟩
    · rintro rfl
      have key : ∀ f (l : List UInt8) pos acc p, allRun f l pos acc = .error (p, 160) → False := by
        intro f
        induction f with
        | zero => intro l pos acc p h; simp [allRun] at h
        | succ f ih =>
          intro l pos acc p h
          simp only [allRun] at h
          split at h
          · cases h
          · split at h
            · rename_i e' he
              simp at h
              obtain ⟨-, rfl⟩ := h
              unfold tokS at he
              simp only [] at he
              repeat' split at he
              all_goals simp at he
            · exact ih _ _ _ _ h
      exact key _ _ _ _ _ h
    · rw [allS, if_neg (by rw [List.length_take]; omega)]
      simpa [allFrom] using h5
theorem allS_okrun {l : List UInt8} {toks : List Tok} (h : allS l = .ok toks) : l.length ≤ 8192 ∧ OkRun l 0 toks := by
  unfold allS at h
  split at h
  · cases h
  · obtain ⟨ts, h1, h2⟩ := run_ok _ _ _ _ _ h
    rw [List.nil_append] at h1
    subst h1
    exact ⟨by omega, h2⟩
theorem allS_cut {l : List UInt8} {toks : List Tok} (h : allS l = .ok toks) {i : Nat} (hi : i < toks.length) : allS (l.take (posAt toks i)) = .ok (toks.take i ++ [⟨0, [], 0, posAt toks i⟩]) := by
  obtain ⟨h1, h2⟩ := allS_okrun h
  have h3 := h2.cut i hi ((l.take (posAt toks i)).length + 1) [] (by rw [List.length_take]; have := h2.ge i hi; omega)
  rw [allS, if_neg (by rw [List.length_take]; omega)]
  simpa [allFrom] using h3
end Go.Proofs.YtgnoiliaidfepaaDoor
