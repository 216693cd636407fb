/- The plain words of the lexer: what a name's bytes are, what a quoted text is. Plain definitions and facts; no program in sight. -/
set_option linter.unusedVariables false
set_option linter.unusedSimpArgs false
namespace Go.Proofs.YtlnhhffhmeekoaaGreatDoor

def isDigit (c : Nat) : Bool := decide (48 ≤ c) && decide (c ≤ 57)
def isLetter (c : Nat) : Bool := (decide (97 ≤ c) && decide (c ≤ 122)) || ((decide (65 ≤ c) && decide (c ≤ 90)) || (c == 95))
def isWord (c : UInt8) : Bool := isLetter c.toNat || isDigit c.toNat

def kwords : List (List UInt8) :=
  [[102, 110], [101, 120, 112, 111, 114, 116], [108, 101, 116], [105, 102], [101, 108, 115, 101], [119, 104, 105, 108, 101], [114, 101, 116, 117, 114, 110], [98, 114, 101, 97, 107], [99, 111, 110, 116, 105, 110, 117, 101], [116, 114, 117, 101], [102, 97, 108, 115, 101], [117, 110, 105, 116]]
def isKeyword (l : List UInt8) : Bool := kwords.contains l

/-- how long the word is with which a text begins -/
def wordLen (l : List UInt8) : Nat := (l.takeWhile isWord).length

theorem wordLen_le (l : List UInt8) : wordLen l ≤ l.length := by
  unfold wordLen
  exact (List.takeWhile_sublist isWord).length_le

theorem takeWhile_take_len {α : Type} (p : α → Bool) (l : List α) : l.take (l.takeWhile p).length = l.takeWhile p := by
  induction l with
  | nil => rfl
  | cons a l ih =>
    by_cases h : p a = true
    · simp [List.takeWhile_cons, h, ih]
    · simp [List.takeWhile_cons, h]

/-- all before n are word bytes, and at n there is none, or the end -/
theorem wordLen_eq (l : List UInt8) (n : Nat) (hn : n ≤ l.length) (hall : ∀ i, (h : i < n) → isWord (l[i]'(by omega)) = true) (hend : ∀ h : n < l.length, isWord l[n] = false) : wordLen l = n := by
  induction l generalizing n with
  | nil => simp at hn; subst hn; rfl
  | cons a l ih =>
    cases n with
    | zero =>
      have h := hend (by simp)
      simp at h
      simp [wordLen, List.takeWhile_cons, h]
    | succ n =>
      have h0 := hall 0 (by omega)
      simp at h0
      have := ih n (by simpa using hn) (fun i hi => by have := hall (i + 1) (by omega); simpa using this) (fun h => by have := hend (by simpa using h); simpa using this)
      unfold wordLen at this ⊢
      simp [List.takeWhile_cons, h0, this]

theorem wordLen_step (l : List UInt8) (n : Nat) (h : n ≤ wordLen l) (hn : n < l.length) : (isWord l[n] = true → n + 1 ≤ wordLen l) ∧ (isWord l[n] = false → wordLen l = n) := by
  induction l generalizing n with
  | nil => simp at hn
  | cons a l ih =>
    by_cases ha : isWord a = true
    · have e : wordLen (a :: l) = wordLen l + 1 := by simp [wordLen, ha]
      cases n with
      | zero => simp [ha]; omega
      | succ n =>
        have := ih n (by omega) (by simpa using hn)
        simp only [List.getElem_cons_succ]
        exact ⟨fun h => by have := this.1 h; omega, fun h => by have := this.2 h; omega⟩
    · have e : wordLen (a :: l) = 0 := by simp [wordLen, ha]
      have : n = 0 := by omega
      subst this
      simp [ha, e]

def isNameB (l : List UInt8) : Bool :=
  decide (1 ≤ l.length) && (decide (l.length ≤ 20) && (isLetter (l.headD 0).toNat && (decide (wordLen l = l.length) && !isKeyword l)))

/-- a byte as a quoted text says it -/
def hexd (n : Nat) : UInt8 := ([48, 49, 50, 51, 52, 53, 54, 55, 56, 57, 97, 98, 99, 100, 101, 102] : List UInt8).getD n 0
def quoteB (c : UInt8) : List UInt8 :=
  if c = 34 ∨ c = 92 then [92, c] else if 32 ≤ c.toNat ∧ c.toNat ≤ 126 then [c] else [92, 120, hexd (c.toNat / 16), hexd (c.toNat % 16)]
def quoteL (l : List UInt8) : List UInt8 := l.flatMap quoteB
def quoteS (l : List UInt8) : List UInt8 := 34 :: (quoteL l ++ [34])

theorem quoteB_le (c : UInt8) : (quoteB c).length ≤ 4 := by unfold quoteB; split <;> (try split) <;> simp
theorem quoteL_le (l : List UInt8) : (quoteL l).length ≤ 4 * l.length := by
  induction l with
  | nil => simp [quoteL]
  | cons a l ih =>
    have := quoteB_le a
    simp only [quoteL, List.flatMap_cons, List.length_append, List.length_cons] at ih ⊢
    omega
theorem quoteL_snoc (l : List UInt8) (c : UInt8) : quoteL (l ++ [c]) = quoteL l ++ quoteB c := by simp [quoteL]

end Go.Proofs.YtlnhhffhmeekoaaGreatDoor
