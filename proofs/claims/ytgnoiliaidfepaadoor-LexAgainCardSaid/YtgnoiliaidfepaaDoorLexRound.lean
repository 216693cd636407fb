/- Plain laws: a quoted text is one token that says it; tokens that are written with blanks between read as the same tokens. -/
import Derived.Test.YtgnoiliaidfepaaDoorLexPre
set_option linter.unusedVariables false
set_option linter.unusedSimpArgs false
namespace Go.Proofs.YtgnoiliaidfepaaDoor

theorem hex_back : ∀ n : Fin 256, pieceS (quoteB (UInt8.ofNat n.val)) = some (UInt8.ofNat n.val, (quoteB (UInt8.ofNat n.val)).length) ∧ ((quoteB (UInt8.ofNat n.val)).headD 0).toNat ≠ 34 := by decide +kernel
theorem piece_quote (c : UInt8) (rest : List UInt8) : pieceS (quoteB c ++ rest) = some (c, (quoteB c).length) ∧ ((quoteB c).headD 0).toNat ≠ 34 ∧ 0 < (quoteB c).length := by
  have h := hex_back ⟨c.toNat, c.toNat_lt⟩
  simp only [UInt8.ofNat_toNat] at h
  obtain ⟨h1, h2⟩ := h
  have h3 := pieceS_pos h1
  refine ⟨?_, h2, h3.1⟩
  generalize quoteB c = q at *
  have key : pieceS ((q ++ rest).take q.length) = some (c, q.length) := by simpa using h1
  cases q with
  | nil => simp [pieceS] at h1
  | cons a q' =>
    rw [List.cons_append]
    unfold pieceS at h1 ⊢
    simp only [] at h1 ⊢
    split at h1
    · simp at h1
    · rename_i g1
      rw [if_neg g1]
      split at h1
      · rename_i g2
        rw [if_pos g2]
        exact h1
      · rename_i g2
        rw [if_neg g2]
        cases q' with
        | nil => simp [escS] at h1
        | cons d q2 =>
          rw [List.cons_append]
          unfold escS at h1 ⊢
          simp only [] at h1 ⊢
          split at h1
          · rename_i g3
            rw [if_pos g3]
            exact h1
          · rename_i g3
            rw [if_neg g3]
            split at h1
            · rename_i g4
              rw [if_pos g4]
              cases q2 with
              | nil => simp at h1
              | cons x q3 =>
                cases q3 with
                | nil => simp at h1
                | cons y q4 => exact h1
            · simp at h1

theorem quo_round (s : List UInt8) : ∀ (acc rest : List UInt8), acc.length + s.length ≤ 2047 → quoS (quoteL s ++ 34 :: rest) acc = some (acc ++ s, rest) := by
  induction s with
  | nil => intro acc rest _; rw [quoteL, List.flatMap_nil, List.nil_append, quoS_end (by rfl), List.append_nil]
  | cons c s ih =>
    intro acc rest hl
    simp only [List.length_cons] at hl
    have e : quoteL (c :: s) ++ 34 :: rest = quoteB c ++ (quoteL s ++ 34 :: rest) := by simp [quoteL]
    obtain ⟨h1, h2, h3⟩ := piece_quote c (quoteL s ++ 34 :: rest)
    rw [e]
    have h4 : (quoteB c ++ (quoteL s ++ 34 :: rest)).drop (quoteB c).length = quoteL s ++ 34 :: rest := by simp
    generalize quoteB c = q at *
    cases q with
    | nil => simp at h3
    | cons a q =>
      rw [List.cons_append] at h1 h4 ⊢
      rw [quoS_step (by simpa using h2) (by omega) h1, h4, ih _ _ (by rw [List.length_append, List.length_cons, List.length_nil]; omega)]
      simp
theorem quo_long (s : List UInt8) : ∀ (acc rest : List UInt8), acc.length ≤ 2047 → 2047 < acc.length + s.length → quoS (quoteL s ++ 34 :: rest) acc = none := by
  induction s with
  | nil => intro acc rest _ h; simp at h; omega
  | cons c s ih =>
    intro acc rest hl hg
    simp only [List.length_cons] at hg
    have e : quoteL (c :: s) ++ 34 :: rest = quoteB c ++ (quoteL s ++ 34 :: rest) := by simp [quoteL]
    obtain ⟨h1, h2, h3⟩ := piece_quote c (quoteL s ++ 34 :: rest)
    rw [e]
    have h4 : (quoteB c ++ (quoteL s ++ 34 :: rest)).drop (quoteB c).length = quoteL s ++ 34 :: rest := by simp
    generalize quoteB c = q at *
    cases q with
    | nil => simp at h3
    | cons a q =>
      rw [List.cons_append] at h1 h4 ⊢
      by_cases h5 : 2047 ≤ acc.length
      · exact quoS_long (by simpa using h2) h5
      · rw [quoS_step (by simpa using h2) (by omega) h1, h4]
        exact ih _ _ (by rw [List.length_append, List.length_cons, List.length_nil]; omega) (by rw [List.length_append, List.length_cons, List.length_nil]; omega)

/-- a text that stands between blanks -/
def frames : List (List UInt8) := [[], [32], [10, 9], [47, 47, 32, 34, 120, 10], [13, 32, 10]]
theorem skip_frame {a : List UInt8} (ha : a ∈ frames) (x : List UInt8) : skip false (a ++ 34 :: x) = 34 :: x := by
  have h0 : skip false (34 :: x) = 34 :: x := by simp [skip, isBlank]
  simp only [frames, List.mem_cons, List.not_mem_nil, or_false] at ha
  rcases ha with rfl | rfl | rfl | rfl | rfl <;> simp [skip, isBlank]
theorem skip_frame_end {a : List UInt8} (ha : a ∈ frames) : skip false a = [] := by
  simp only [frames, List.mem_cons, List.not_mem_nil, or_false] at ha
  rcases ha with rfl | rfl | rfl | rfl | rfl <;> decide

theorem tok_quote (s rest : List UInt8) (h : s.length ≤ 2047) : tokS (quoteS s ++ rest) = .ok (4, s, 0, (quoteS s).length) := by
  have e : quoteS s ++ rest = 34 :: (quoteL s ++ 34 :: rest) := by simp [quoteS]
  have hq := quo_round s [] rest (by simpa using h)
  rw [e, tokS]
  simp only [List.headD_cons, List.tail_cons, hq]
  rw [if_neg (by decide), if_neg (by decide), if_pos (by decide)]
  simp only [List.nil_append, Except.ok.injEq, Prod.mk.injEq, true_and]
  simp only [quoteS, List.length_cons, List.length_append, List.length_nil]
  omega
theorem tok_quote_long (s rest : List UInt8) (h : 2047 < s.length) : tokS (quoteS s ++ rest) = .error 163 := by
  have e : quoteS s ++ rest = 34 :: (quoteL s ++ 34 :: rest) := by simp [quoteS]
  have hq := quo_long s [] rest (by simp) (by simpa using h)
  rw [e, tokS]
  simp only [List.headD_cons, List.tail_cons, hq]
  rw [if_neg (by decide), if_neg (by decide), if_pos (by decide)]

/-- LexBack: what the three texts behind one another are -/
theorem allS_back {a b s : List UInt8} (ha : a ∈ frames) (hb : b ∈ frames) :
    allS (a ++ quoteS s ++ b) = if 8192 < (a ++ quoteS s ++ b).length then .error (0, 160) else if 2047 < s.length then .error (a.length, 163) else .ok [⟨4, s, 0, a.length⟩, ⟨0, [], 0, (a ++ quoteS s ++ b).length⟩] := by
  rw [allS]
  split
  · rfl
  · have hsk : skip false (a ++ quoteS s ++ b) = quoteS s ++ b := by
      rw [List.append_assoc]
      exact skip_frame ha _
    have hs2 : skip false (quoteS s ++ b) = quoteS s ++ b := skip_frame (a := []) (by simp [frames]) _
    have hne : quoteS s ++ b ≠ [] := by simp [quoteS]
    rw [allFrom_skip, hsk]
    have e : 0 + ((a ++ quoteS s ++ b).length - (quoteS s ++ b).length) = a.length := by simp only [List.length_append]; omega
    rw [e]
    split
    · rename_i h
      exact allFrom_err hne hs2 (tok_quote_long s b h)
    · rename_i h
      rw [allFrom_tok hne hs2 (tok_quote s b (by omega)), List.drop_left, allFrom_end _ _ _ (skip_frame_end hb)]
      simp only [List.nil_append, List.cons_append, List.length_append]

/-! numbers -/
def decF : Nat → Nat → List UInt8
  | 0, _ => []
  | f + 1, n => if n < 10 then [UInt8.ofNat (48 + n)] else decF f (n / 10) ++ [UInt8.ofNat (48 + n % 10)]
def decS (n : Nat) : List UInt8 := decF 20 n
theorem digit_of {d : Nat} (h : d < 10) : (UInt8.ofNat (48 + d)).toNat = 48 + d := by simp; omega
theorem decF_facts (f : Nat) : ∀ n, n < 10 ^ f → 0 < f → (decF f n).all digitB = true ∧ valS (decF f n) = n ∧ decF f n ≠ [] ∧ ((decF f n).length ≤ 1 ∨ (decF f n).headD 0 ≠ 48) ∧ (decF f n).length ≤ f := by
  induction f with
  | zero => intro n _ h; omega
  | succ f ih =>
    intro n hn _
    rw [decF]
    split
    · rename_i h
      have := digit_of h
      refine ⟨?_, ?_, by simp, .inl (by simp), by simp⟩
      · simp [digitB, isDigit, this]; omega
      · simp only [valS, List.foldl_cons, List.foldl_nil, this]; omega
    · rename_i h
      have hd := digit_of (Nat.mod_lt n (show 10 > 0 by omega))
      have hf : 0 < f := by
        cases f with
        | zero => simp at hn; omega
        | succ f => omega
      obtain ⟨h1, h2, h3, h4, h5⟩ := ih (n / 10) (by rw [Nat.div_lt_iff_lt_mul (by omega)]; rw [Nat.pow_succ] at hn; exact hn) hf
      refine ⟨?_, ?_, by simp, .inr ?_, by simp; omega⟩
      · rw [List.all_append, h1]
        simp [digitB, isDigit, hd]
        omega
      · unfold valS at h2 ⊢
        rw [List.foldl_append, h2]
        simp only [List.foldl_cons, List.foldl_nil, hd]
        omega
      · rcases h4 with h4 | h4
        · generalize hg : decF f (n / 10) = g at *
          match g, h3, h4 with
          | [x], _, _ =>
            simp only [List.cons_append, List.headD_cons]
            rintro rfl
            simp [valS] at h2
            omega
        · generalize decF f (n / 10) = g at *
          cases g with
          | nil => exact absurd rfl h3
          | cons x g => simpa using h4
theorem word_run (w : List UInt8) (hw : w.all isWord = true) (rest : List UInt8) (hr : rest = [] ∨ rest.headD 0 = 32) : wordLen (w ++ rest) = w.length := by
  induction w with
  | nil =>
    cases rest with
    | nil => rfl
    | cons c r =>
      have hc : c = 32 := by simpa using hr
      subst hc
      simp [wordLen, isWord, isLetter, isDigit]
  | cons c w ih =>
    simp only [List.all_cons, Bool.and_eq_true] at hw
    have := ih hw.2
    simp only [wordLen, List.cons_append, List.takeWhile_cons, hw.1, if_true, List.length_cons] at this ⊢
    omega

/-- what a token is -/
inductive Good : Tok → Prop
  | key (t : List UInt8) (p : Nat) (h : isKeyword t = true) (hw : t.all isWord = true) (hl : isLetter (t.headD 0).toNat = true) : Good ⟨2, t, 0, p⟩
  | name (t : List UInt8) (p : Nat) (h : isKeyword t = false) (hw : t.all isWord = true) (hl : isLetter (t.headD 0).toNat = true) (hn : t.length ≤ 20) : Good ⟨1, t, 0, p⟩
  | int (n p : Nat) (h : n < 9223372036854775808) : Good ⟨3, [], n, p⟩
  | bytes (t : List UInt8) (p : Nat) (h : t.length ≤ 2047) : Good ⟨4, t, 0, p⟩
  | sign (t : List UInt8) (p : Nat) (h : pairs.contains t = true ∨ ∃ c, t = [c] ∧ singles.contains c = true) : Good ⟨5, t, 0, p⟩
theorem tokS_good {l : List UInt8} {k n m : Nat} {t : List UInt8} (hl : l ≠ []) (h : tokS l = .ok (k, t, n, m)) (p : Nat) : Good ⟨k, t, n, p⟩ := by
  have hw : (l.take (wordLen l)).all isWord = true := by
    rw [wordLen, takeWhile_take_len]
    exact List.all_takeWhile
  have hh : (isLetter (l.headD 0).toNat = true ∨ isDigit (l.headD 0).toNat = true) → (l.take (wordLen l)).headD 0 = l.headD 0 := fun h => headD_take _ _ (wordLen_pos hl h)
  unfold tokS at h
  simp only [] at h
  split at h
  · rename_i h1
    have hh := hh (.inl h1)
    split at h
    · rename_i h2
      simp at h
      obtain ⟨rfl, rfl, rfl, -⟩ := h
      exact .key _ _ h2 hw (by rw [hh]; exact h1)
    · rename_i h2
      split at h
      · simp at h
      · rename_i h3
        simp at h
        obtain ⟨rfl, rfl, rfl, -⟩ := h
        exact .name _ _ (by simpa using h2) hw (by rw [hh]; exact h1) (by omega)
  · split at h
    · split at h
      · rename_i nn hn
        simp at h
        obtain ⟨rfl, rfl, rfl, -⟩ := h
        unfold numS at hn
        split at hn
        · rename_i hc
          simp at hn
          subst hn
          exact .int _ _ hc.2.2
        · simp at hn
      · simp at h
    · split at h
      · split at h
        · rename_i b r hb
          simp at h
          obtain ⟨rfl, rfl, rfl, -⟩ := h
          unfold quoS at hb
          have := quoS_len hb
          exact .bytes _ _ (by simp at this; omega)
        · simp at h
      · split at h
        · simp at h
        · rename_i h4
          simp at h
          obtain ⟨rfl, rfl, rfl, -⟩ := h
          refine .sign _ _ ?_
          unfold signS at h4 ⊢
          split
          · rename_i h5; exact .inl h5
          · rename_i h5
            rw [if_neg h5] at h4
            split
            · rename_i h6
              rw [if_pos h6] at h4
              cases l with
              | nil => exact absurd rfl hl
              | cons c r => exact .inr ⟨c, by simp, by simpa using h6⟩
            · rename_i h6
              rw [if_neg h6] at h4
              exact absurd rfl h4

/-- a token as a source says it -/
def writtenS (t : Tok) : List UInt8 := if t.kind = 3 then decS t.n else if t.kind = 4 then quoteS t.text else t.text
theorem pairs_facts {t : List UInt8} (h : pairs.contains t = true) : t.length = 2 ∧ isLetter (t.headD 0).toNat = false ∧ isDigit (t.headD 0).toNat = false ∧ (t.headD 0).toNat ≠ 34 ∧ (t.headD 0).toNat ≠ 47 ∧ isBlank (t.headD 0) = false := by
  have : t ∈ pairs := by simpa using h
  simp only [pairs, List.mem_cons, List.not_mem_nil, or_false] at this
  rcases this with rfl | rfl | rfl | rfl | rfl | rfl <;> decide
theorem singles_facts {c : UInt8} (h : singles.contains c = true) : isLetter c.toNat = false ∧ isDigit c.toNat = false ∧ c.toNat ≠ 34 ∧ isBlank c = false ∧ pairs.contains [c] = false ∧ pairs.contains [c, 32] = false := by
  have : c ∈ singles := by simpa using h
  simp only [singles, List.mem_cons, List.not_mem_nil, or_false] at this
  rcases this with rfl | rfl | rfl | rfl | rfl | rfl | rfl | rfl | rfl | rfl | rfl | rfl | rfl | rfl | rfl | rfl | rfl | rfl | rfl <;> decide
theorem letter_facts : ∀ n : Fin 256, isLetter (UInt8.ofNat n.val).toNat = true → isBlank (UInt8.ofNat n.val) = false ∧ (UInt8.ofNat n.val).toNat ≠ 47 := by decide +kernel
theorem digit_facts : ∀ n : Fin 256, isDigit (UInt8.ofNat n.val).toNat = true → isLetter (UInt8.ofNat n.val).toNat = false ∧ isBlank (UInt8.ofNat n.val) = false ∧ (UInt8.ofNat n.val).toNat ≠ 47 ∧ isWord (UInt8.ofNat n.val) = true := by decide +kernel
theorem letter_f {c : UInt8} (h : isLetter c.toNat = true) : isBlank c = false ∧ c.toNat ≠ 47 := by
  have := letter_facts ⟨c.toNat, c.toNat_lt⟩
  simp only [UInt8.ofNat_toNat] at this
  exact this h
theorem digit_f {c : UInt8} (h : isDigit c.toNat = true) : isLetter c.toNat = false ∧ isBlank c = false ∧ c.toNat ≠ 47 ∧ isWord c = true := by
  have := digit_facts ⟨c.toNat, c.toNat_lt⟩
  simp only [UInt8.ofNat_toNat] at this
  exact this h
theorem skip_plain {c : UInt8} (r : List UInt8) (h1 : isBlank c = false) (h2 : c.toNat ≠ 47) : skip false (c :: r) = c :: r := by
  rw [skip, if_neg (by rw [h1]; simp), if_neg (fun h => h2 h.1)]

theorem good_tok {t : Tok} (hg : Good t) (rest : List UInt8) (hr : rest = [] ∨ rest.headD 0 = 32) : writtenS t ≠ [] ∧ skip false (writtenS t ++ rest) = writtenS t ++ rest ∧ tokS (writtenS t ++ rest) = .ok (t.kind, t.text, t.n, (writtenS t).length) := by
  cases hg with
  | key t p h hw hl =>
    have e : writtenS ⟨2, t, 0, p⟩ = t := rfl
    rw [e]
    cases t with
    | nil => simp [isLetter] at hl
    | cons c w =>
      simp only [List.headD_cons] at hl
      have hf := letter_f hl
      refine ⟨by simp, skip_plain _ hf.1 hf.2, ?_⟩
      rw [tokS]
      simp only [word_run _ hw rest hr, List.take_left]
      simp only [List.cons_append, List.headD_cons, hl, if_true, h]
  | name t p h hw hl hn =>
    have e : writtenS ⟨1, t, 0, p⟩ = t := rfl
    rw [e]
    cases t with
    | nil => simp [isLetter] at hl
    | cons c w =>
      simp only [List.headD_cons] at hl
      have hf := letter_f hl
      refine ⟨by simp, skip_plain _ hf.1 hf.2, ?_⟩
      rw [tokS]
      simp only [word_run _ hw rest hr, List.take_left]
      simp only [List.cons_append, List.headD_cons, hl, if_true, h]
      rw [if_neg (by simp), if_neg (by omega)]
  | int n p h =>
    have e : writtenS ⟨3, [], n, p⟩ = decS n := rfl
    rw [e]
    obtain ⟨h1, h2, h3, h4, h5⟩ := decF_facts 20 n (by omega) (by omega)
    change (decS n).all digitB = true at h1
    change valS (decS n) = n at h2
    change decS n ≠ [] at h3
    change (decS n).length ≤ 1 ∨ (decS n).headD 0 ≠ 48 at h4
    generalize decS n = d at *
    cases d with
    | nil => exact absurd rfl h3
    | cons c w =>
      have hc : isDigit c.toNat = true := by simp only [List.all_cons, Bool.and_eq_true] at h1; exact h1.1
      have hf := digit_f hc
      have hw : (c :: w).all isWord = true := by
        rw [List.all_eq_true] at h1 ⊢
        intro x hx
        exact (digit_f (h1 x hx)).2.2.2
      refine ⟨by simp, skip_plain _ hf.2.1 hf.2.2.1, ?_⟩
      have hnum : numS (c :: w) = some n := by
        rw [numS, if_pos ⟨h1, h4, by rw [h2]; exact h⟩, h2]
      rw [tokS]
      simp only [word_run _ hw rest hr, List.take_left]
      simp only [List.cons_append, List.headD_cons, hf.1, hc, if_true, hnum]
      rw [if_neg (by simp)]
  | bytes t p h =>
    have e : writtenS ⟨4, t, 0, p⟩ = quoteS t := rfl
    rw [e]
    exact ⟨by simp [quoteS], skip_frame (a := []) (by simp [frames]) _, tok_quote t rest h⟩
  | sign t p h =>
    have e : writtenS ⟨5, t, 0, p⟩ = t := rfl
    rw [e]
    rcases h with h | ⟨c, rfl, h⟩
    · obtain ⟨h1, h2, h3, h4, h5, h6⟩ := pairs_facts h
      match t, h1 with
      | [x, y], _ =>
        simp only [List.headD_cons] at h2 h3 h4 h5 h6
        refine ⟨by simp, skip_plain _ h6 h5, ?_⟩
        have hs : signS ([x, y] ++ rest) = [x, y] := by
          rw [signS, if_pos (by simpa using h)]
          simp
        rw [tokS]
        simp only [hs]
        simp only [List.cons_append, List.headD_cons]
        simp [h2, h3, h4]
    · obtain ⟨h2, h3, h4, h6, h7, h8⟩ := singles_facts h
      have hrest : ([c] ++ rest).take 2 = [c] ∨ ([c] ++ rest).take 2 = [c, 32] := by
        cases rest with
        | nil => exact .inl rfl
        | cons d r =>
          have hd : d = 32 := by simpa using hr
          subst hd
          exact .inr rfl
      have hs : signS ([c] ++ rest) = [c] := by
        rw [signS, if_neg, if_pos (by simpa using h)]
        · simp
        · rcases hrest with e | e <;> rw [e]
          · rw [h7]; simp
          · rw [h8]; simp
      refine ⟨by simp, ?_, ?_⟩
      · rw [List.cons_append, skip, if_neg (by rw [h6]; simp), if_neg]
        rintro ⟨_, h9⟩
        cases rest with
        | nil => simp at h9
        | cons d r =>
          have hd : d = 32 := by simpa using hr
          subst hd
          simp at h9
      · rw [tokS]
        simp only [hs]
        simp only [List.cons_append, List.headD_cons]
        simp [h2, h3, h4]

/-- the tokens one behind the other, a blank between each two; and their places -/
def joinL : List Tok → List UInt8
  | [] => []
  | t :: ts => 32 :: (writtenS t ++ joinL ts)
def placed : Nat → List Tok → List Tok
  | _, [] => []
  | p, t :: ts => ⟨t.kind, t.text, t.n, p + 1⟩ :: placed (p + 1 + (writtenS t).length) ts
theorem joinL_head (ts : List Tok) : joinL ts = [] ∨ (joinL ts).headD 0 = 32 := by
  cases ts with
  | nil => exact .inl rfl
  | cons t ts => exact .inr rfl
theorem all_join (ts : List Tok) (q : Nat) : ∀ (pos : Nat) (acc : List Tok), (∀ t ∈ ts, Good t) → allFrom (joinL (ts ++ [⟨0, [], 0, q⟩])) pos acc = .ok (acc ++ placed pos (ts ++ [⟨0, [], 0, q⟩])) := by
  induction ts with
  | nil =>
    intro pos acc _
    have e : joinL ([] ++ [⟨0, [], 0, q⟩]) = [32] := rfl
    rw [e, allFrom_end _ _ _ (by decide)]
    rfl
  | cons t ts ih =>
    intro pos acc hg
    obtain ⟨h1, h2, h3⟩ := good_tok (hg t (List.mem_cons_self ..)) (joinL (ts ++ [⟨0, [], 0, q⟩])) (joinL_head _)
    have e : joinL (t :: ts ++ [⟨0, [], 0, q⟩]) = 32 :: (writtenS t ++ joinL (ts ++ [⟨0, [], 0, q⟩])) := rfl
    have hsk : skip false (32 :: (writtenS t ++ joinL (ts ++ [⟨0, [], 0, q⟩]))) = writtenS t ++ joinL (ts ++ [⟨0, [], 0, q⟩]) := by
      rw [skip, if_pos (by decide)]
      exact h2
    have hne : writtenS t ++ joinL (ts ++ [⟨0, [], 0, q⟩]) ≠ [] := by simp [h1]
    rw [e, allFrom_skip, hsk, allFrom_tok hne h2 h3, List.drop_left, ih _ _ (fun x hx => hg x (List.mem_cons_of_mem _ hx))]
    have e2 : pos + ((32 :: (writtenS t ++ joinL (ts ++ [⟨0, [], 0, q⟩]))).length - (writtenS t ++ joinL (ts ++ [⟨0, [], 0, q⟩])).length) = pos + 1 := by
      simp only [List.length_cons]; omega
    rw [e2]
    simp [placed]
/-- all tokens of a source but the last are good -/
theorem run_good (f : Nat) : ∀ (l : List UInt8) (pos : Nat) (acc toks : List Tok), allRun f l pos acc = .ok toks → ∃ ts q, toks = acc ++ ts ++ [⟨0, [], 0, q⟩] ∧ ∀ t ∈ ts, Good t := by
  induction f with
  | zero => intro l pos acc toks h; simp [allRun] at h
  | succ f ih =>
    intro l pos acc toks h
    simp only [allRun] at h
    split at h
    · injection h with h
      exact ⟨[], pos + (l.length - (skip false l).length), by rw [← h]; simp, by simp⟩
    · rename_i hr
      split at h
      · cases h
      · rename_i k t n m ht
        obtain ⟨ts, q, hts, hG⟩ := ih _ _ _ _ h
        refine ⟨⟨k, t, n, pos + (l.length - (skip false l).length)⟩ :: ts, q, by rw [hts]; simp, ?_⟩
        intro x hx
        rcases List.mem_cons.1 hx with rfl | hx
        · exact tokS_good hr ht _
        · exact hG x hx
theorem allS_good {l : List UInt8} {toks : List Tok} (h : allS l = .ok toks) : ∃ ts q, toks = ts ++ [⟨0, [], 0, q⟩] ∧ ∀ t ∈ ts, Good t := by
  unfold allS at h
  split at h
  · cases h
  · obtain ⟨ts, q, h1, h2⟩ := run_good _ _ _ _ _ h
    exact ⟨ts, q, by simpa using h1, h2⟩
/-- what the law writes: no blank ahead of the first -/
def joinS (ts : List Tok) : List UInt8 := (joinL ts).tail
theorem all_again {ts : List Tok} (hg : ∀ t ∈ ts, Good t) (q : Nat) : allFrom (joinS (ts ++ [⟨0, [], 0, q⟩])) 0 [] = .ok ((placed 0 (ts ++ [⟨0, [], 0, q⟩])).map fun t => ⟨t.kind, t.text, t.n, t.pos - 1⟩) := by
  have key : ∀ (p : Nat) (us : List Tok), (placed (p + 1) us).map (fun t : Tok => (⟨t.kind, t.text, t.n, t.pos - 1⟩ : Tok)) = placed p us := by
    intro p us
    induction us generalizing p with
    | nil => rfl
    | cons u us ih =>
      simp only [placed, List.map_cons, Nat.add_sub_cancel]
      rw [show p + 1 + 1 + (writtenS u).length = (p + 1 + (writtenS u).length) + 1 by omega, ih]
  cases ts with
  | nil =>
    have e : joinS ([] ++ [⟨0, [], 0, q⟩]) = [] := rfl
    rw [e, allFrom_end _ _ _ rfl]
    rfl
  | cons t ts =>
    obtain ⟨h1, h2, h3⟩ := good_tok (hg t (List.mem_cons_self ..)) (joinL (ts ++ [⟨0, [], 0, q⟩])) (joinL_head _)
    have e : joinS (t :: ts ++ [⟨0, [], 0, q⟩]) = writtenS t ++ joinL (ts ++ [⟨0, [], 0, q⟩]) := rfl
    have hne : writtenS t ++ joinL (ts ++ [⟨0, [], 0, q⟩]) ≠ [] := by simp [h1]
    rw [e, allFrom_tok hne h2 h3, List.drop_left, all_join ts q _ _ (fun x hx => hg x (List.mem_cons_of_mem _ hx))]
    simp only [List.cons_append, placed, List.map_cons, List.nil_append, Nat.zero_add, Nat.sub_self]
    rw [show 1 + (writtenS t).length = (writtenS t).length + 1 by omega, key]
end Go.Proofs.YtgnoiliaidfepaaDoor
