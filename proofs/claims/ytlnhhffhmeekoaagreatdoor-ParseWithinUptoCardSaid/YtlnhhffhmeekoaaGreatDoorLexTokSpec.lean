/- The plain words of the lexer: what stands at a text's head (blanks, a token), and a source's tokens. Plain definitions and facts; no program in sight. -/
import Derived.Test.YtlnhhffhmeekoaaGreatDoorLexSpec
import Derived.Lib.ParseIntBCases
import Derived.Lib.SlTrimSet
set_option linter.unusedVariables false
set_option linter.unusedSimpArgs false
namespace Go.Proofs.YtlnhhffhmeekoaaGreatDoor

structure Tok where
  kind : Nat
  text : List UInt8
  n : Nat
  pos : Nat
deriving DecidableEq

def isBlank (c : UInt8) : Bool := c.toNat == 32 || (c.toNat == 9 || (c.toNat == 10 || c.toNat == 13))

/-- what stands behind the blanks and the notes at a text's head ('true': within a note) -/
def skip : Bool → List UInt8 → List UInt8
  | _, [] => []
  | false, c :: r => if isBlank c then skip false r else if c.toNat = 47 ∧ r.head? = some 47 then skip true r else c :: r
  | true, c :: r => if c.toNat = 10 then skip false r else skip true r

theorem skip_len (b : Bool) (l : List UInt8) : (skip b l).length ≤ l.length := by
  induction l generalizing b with
  | nil => simp [skip]
  | cons c r ih =>
    have h1 := ih false
    have h2 := ih true
    cases b <;> simp only [skip] <;> (repeat' split) <;> simp only [List.length_cons] <;> omega
theorem skip_nl (r : List UInt8) : skip true (10 :: r) = skip false (10 :: r) := by simp [skip, isBlank]
/-- it is a tail of the text -/
theorem skip_drop (b : Bool) (l : List UInt8) : skip b l = l.drop (l.length - (skip b l).length) := by
  induction l generalizing b with
  | nil => simp [skip]
  | cons c r ih =>
    have key : ∀ b' : Bool, skip b' r = (c :: r).drop ((c :: r).length - (skip b' r).length) := by
      intro b'
      have h1 := skip_len b' r
      have e : (c :: r).length - (skip b' r).length = (r.length - (skip b' r).length) + 1 := by simp only [List.length_cons]; omega
      rw [e, List.drop_succ_cons]
      exact ih b'
    cases b
    · simp only [skip]
      split
      · exact key false
      · split
        · exact key true
        · simp
    · simp only [skip]
      split
      · exact key false
      · exact key true

/-- a digit of base sixteen -/
def hexv (c : UInt8) : Option Nat := if 48 ≤ c.toNat ∧ c.toNat ≤ 57 then some (c.toNat - 48) else if 97 ≤ c.toNat ∧ c.toNat ≤ 102 then some (c.toNat - 87) else none
/-- what stands behind a backslash: its byte, and how long the piece is -/
def escS : List UInt8 → Option (UInt8 × Nat)
  | [] => none
  | d :: r => if d.toNat = 34 ∨ d.toNat = 92 then some (d, 2) else if d.toNat = 120 then
      match r with
      | x :: y :: _ => match hexv x, hexv y with
        | some a, some b => some (UInt8.ofNat (16 * a + b), 4)
        | _, _ => none
      | _ => none
    else none
def pieceS : List UInt8 → Option (UInt8 × Nat)
  | [] => none
  | c :: r => if c.toNat < 32 ∨ 126 < c.toNat ∨ c.toNat = 34 then none else if c.toNat ≠ 92 then some (c, 1) else escS r
/-- the rest of a quoted text: what it says, and what stands behind it -/
def qrun : Nat → List UInt8 → List UInt8 → Option (List UInt8 × List UInt8)
  | 0, _, _ => none
  | _ + 1, [], _ => none
  | f + 1, c :: r, acc => if c.toNat = 34 then some (acc, r) else if 2047 ≤ acc.length then none else
      match pieceS (c :: r) with
      | none => none
      | some (b, n) => qrun f ((c :: r).drop n) (acc ++ [b])
theorem escS_pos {l : List UInt8} {b : UInt8} {n : Nat} (h : escS l = some (b, n)) : 0 < n ∧ n ≤ l.length + 1 := by
  unfold escS at h
  repeat' split at h
  all_goals simp at h
  all_goals (obtain ⟨-, rfl⟩ := h; simp; try omega)
theorem pieceS_pos {l : List UInt8} {b : UInt8} {n : Nat} (h : pieceS l = some (b, n)) : 0 < n ∧ n ≤ l.length := by
  unfold pieceS at h
  repeat' split at h
  · simp at h
  · simp at h
  · simp at h; obtain ⟨-, rfl⟩ := h; simp
  · have := escS_pos h; simp; omega
theorem qrun_fuel (f : Nat) : ∀ (g : Nat) (l acc : List UInt8), l.length < f → l.length < g → qrun f l acc = qrun g l acc := by
  induction f with
  | zero => intro g l acc h; omega
  | succ f ih =>
    intro g l acc h1 h2
    cases g with
    | zero => omega
    | succ g =>
      cases l with
      | nil => rfl
      | cons c r =>
        simp only [qrun]
        split
        · rfl
        · split
          · rfl
          · split
            · rfl
            · rename_i b n hp
              have := pieceS_pos hp
              exact ih g _ _ (by simp only [List.length_drop, List.length_cons] at *; omega) (by simp only [List.length_drop, List.length_cons] at *; omega)
def quoS (l acc : List UInt8) : Option (List UInt8 × List UInt8) := qrun (l.length + 1) l acc
theorem quoS_nil (acc : List UInt8) : quoS [] acc = none := rfl
theorem quoS_end {c : UInt8} {r acc : List UInt8} (h : c.toNat = 34) : quoS (c :: r) acc = some (acc, r) := by simp [quoS, qrun, h]
theorem quoS_long {c : UInt8} {r acc : List UInt8} (h : c.toNat ≠ 34) (hl : 2047 ≤ acc.length) : quoS (c :: r) acc = none := by simp [quoS, qrun, h, hl]
theorem quoS_bad {c : UInt8} {r acc : List UInt8} (h : c.toNat ≠ 34) (hp : pieceS (c :: r) = none) : quoS (c :: r) acc = none := by simp [quoS, qrun, h, hp]
theorem quoS_step {c : UInt8} {r acc : List UInt8} {b : UInt8} {n : Nat} (h : c.toNat ≠ 34) (hl : acc.length < 2047) (hp : pieceS (c :: r) = some (b, n)) : quoS (c :: r) acc = quoS ((c :: r).drop n) (acc ++ [b]) := by
  have hn := pieceS_pos hp
  rw [quoS, qrun, if_neg h, if_neg (by omega), hp]
  exact qrun_fuel _ _ _ _ (by simp only [List.length_drop, List.length_cons] at *; omega) (by omega)
theorem quoS_len {f : Nat} : ∀ {l acc b r : List UInt8}, qrun f l acc = some (b, r) → r.length < l.length ∧ b.length ≤ acc.length + l.length ∧ (acc.length ≤ 2047 → b.length ≤ 2047) := by
  induction f with
  | zero => intro l acc b r h; simp [qrun] at h
  | succ f ih =>
    intro l acc b r h
    cases l with
    | nil => simp [qrun] at h
    | cons c l =>
      simp only [qrun] at h
      split at h
      · simp at h; obtain ⟨rfl, rfl⟩ := h; simp
      · split at h
        · simp at h
        · split at h
          · simp at h
          · rename_i b' n hp
            have := pieceS_pos hp
            have := ih h
            simp only [List.length_drop, List.length_cons, List.length_append, List.length_nil] at *
            omega

/-- a number's digits -/
def valS (w : List UInt8) : Nat := w.foldl (fun a c => 10 * a + (c.toNat - 48)) 0
def digitB (c : UInt8) : Bool := isDigit c.toNat
def numS (w : List UInt8) : Option Nat :=
  if w.all digitB = true ∧ (w.length ≤ 1 ∨ w.headD 0 ≠ 48) ∧ valS w < 9223372036854775808 then some (valS w) else none

/-- a sign -/
def pairs : List (List UInt8) := [[61, 61], [33, 61], [60, 61], [62, 61], [38, 38], [124, 124]]
def singles : List UInt8 := [40, 41, 123, 125, 91, 93, 44, 59, 58, 46, 61, 60, 62, 43, 45, 42, 47, 37, 33]
def signS (l : List UInt8) : List UInt8 := if pairs.contains (l.take 2) then l.take 2 else if singles.contains (l.headD 0) then l.take 1 else []

/-- the token at the head of a text that is not empty: kind, text, number, length; or the error's number -/
def tokS (l : List UInt8) : Except Nat (Nat × List UInt8 × Nat × Nat) :=
  let w := l.take (wordLen l)
  if isLetter (l.headD 0).toNat then if isKeyword w then .ok (2, w, 0, w.length) else if 20 < w.length then .error 164 else .ok (1, w, 0, w.length)
  else if isDigit (l.headD 0).toNat then match numS w with
    | some n => .ok (3, [], n, w.length)
    | none => .error 162
  else if (l.headD 0).toNat = 34 then match quoS l.tail [] with
    | some (b, r) => .ok (4, b, 0, l.length - r.length)
    | none => .error 163
  else if signS l = [] then .error 161 else .ok (5, signS l, 0, (signS l).length)

theorem signS_len (l : List UInt8) (h : signS l ≠ []) : 0 < (signS l).length ∧ (signS l).length ≤ l.length := by
  refine ⟨List.length_pos_iff.2 h, ?_⟩
  unfold signS
  split <;> (try split) <;> simp <;> (try omega)
theorem wordLen_pos {l : List UInt8} (hl : l ≠ []) (h : isLetter (l.headD 0).toNat = true ∨ isDigit (l.headD 0).toNat = true) : 0 < wordLen l := by
  cases l with
  | nil => simp at hl
  | cons c r =>
    have : isWord c = true := by simp [isWord]; simpa using h
    simp [wordLen, List.takeWhile_cons, this]
theorem tokS_len {l : List UInt8} {k n m : Nat} {t : List UInt8} (hl : l ≠ []) (h : tokS l = .ok (k, t, n, m)) : 0 < m ∧ m ≤ l.length := by
  have hw := wordLen_le l
  have ht : (l.take (wordLen l)).length = wordLen l := by rw [List.length_take]; omega
  unfold tokS at h
  simp only [] at h
  split at h
  · have := wordLen_pos hl (.inl ‹_›)
    split at h
    · simp at h; omega
    · split at h
      · simp at h
      · simp at h; omega
  · split at h
    · have := wordLen_pos hl (.inr ‹_›)
      split at h
      · simp at h; omega
      · simp at h
    · split at h
      · split at h
        · rename_i b r hq
          have := quoS_len hq
          have hp : 0 < l.length := List.length_pos_iff.2 hl
          simp at h
          simp at this
          omega
        · simp at h
      · split at h
        · simp at h
        · have := signS_len l ‹_›
          simp at h
          omega

/-- a source's tokens from a place on; or the place of a fault and its number -/
def allRun : Nat → List UInt8 → Nat → List Tok → Except (Nat × Nat) (List Tok)
  | 0, _, _, _ => .error (0, 0)
  | f + 1, l, pos, acc =>
    let r := skip false l
    let p := pos + (l.length - r.length)
    if r = [] then .ok (acc ++ [⟨0, [], 0, p⟩]) else
      match tokS r with
      | .error e => .error (p, e)
      | .ok (k, t, n, m) => allRun f (r.drop m) (p + m) (acc ++ [⟨k, t, n, p⟩])
theorem allRun_fuel (f : Nat) : ∀ (g : Nat) (l : List UInt8) (pos : Nat) (acc : List Tok), l.length < f → l.length < g → allRun f l pos acc = allRun g l pos acc := by
  induction f with
  | zero => intro g l pos acc h; omega
  | succ f ih =>
    intro g l pos acc h1 h2
    cases g with
    | zero => omega
    | succ g =>
      simp only [allRun]
      split
      · rfl
      · rename_i hr
        split
        · rfl
        · rename_i k t n m ht
          have := tokS_len hr ht
          have := skip_len false l
          exact ih g _ _ _ (by simp only [List.length_drop]; omega) (by simp only [List.length_drop]; omega)
def allFrom (l : List UInt8) (pos : Nat) (acc : List Tok) : Except (Nat × Nat) (List Tok) := allRun (l.length + 1) l pos acc
/-- the law at one round, of a text whose head is neither blank nor note -/
def headed (l : List UInt8) : Prop := skip false l = l
theorem allFrom_skip (l : List UInt8) (pos : Nat) (acc : List Tok) : allFrom l pos acc = allFrom (skip false l) (pos + (l.length - (skip false l).length)) acc := by
  have hs : skip false (skip false l) = skip false l := by
    have key : ∀ (b : Bool) (l : List UInt8), skip false (skip b l) = skip b l := by
      intro b l
      induction l generalizing b with
      | nil => simp [skip]
      | cons c r ih =>
        cases b <;> simp only [skip]
        · split
          · exact ih false
          · split
            · exact ih true
            · rename_i h1 h2
              simp only [skip, if_neg h1, if_neg h2]
        · split
          · exact ih false
          · exact ih true
    exact key false l
  rw [allFrom, allFrom, allRun, allRun]
  simp only [hs, Nat.sub_self, Nat.add_zero]
  split
  · rfl
  · rename_i hr
    split
    · rfl
    · rename_i k t n m ht
      have := tokS_len hr ht
      have := skip_len false l
      exact allRun_fuel _ _ _ _ _ (by simp only [List.length_drop]; omega) (by simp only [List.length_drop]; omega)
theorem allFrom_end (l : List UInt8) (pos : Nat) (acc : List Tok) (h : skip false l = []) : allFrom l pos acc = .ok (acc ++ [⟨0, [], 0, pos + l.length⟩]) := by
  rw [allFrom, allRun]
  simp [h]
theorem allFrom_err {l : List UInt8} {pos : Nat} {acc : List Tok} {e : Nat} (hl : l ≠ []) (hs : skip false l = l) (h : tokS l = .error e) : allFrom l pos acc = .error (pos, e) := by
  rw [allFrom, allRun]
  simp [hs, hl, h]
theorem allFrom_tok {l : List UInt8} {pos : Nat} {acc : List Tok} {k n m : Nat} {t : List UInt8} (hl : l ≠ []) (hs : skip false l = l) (h : tokS l = .ok (k, t, n, m)) :
    allFrom l pos acc = allFrom (l.drop m) (pos + m) (acc ++ [⟨k, t, n, pos⟩]) := by
  rw [allFrom, allRun]
  simp only [hs, Nat.sub_self, Nat.add_zero, if_neg hl, h]
  have := tokS_len hl h
  exact allRun_fuel _ _ _ _ _ (by simp only [List.length_drop]; omega) (by omega)
def allS (l : List UInt8) : Except (Nat × Nat) (List Tok) := if 8192 < l.length then .error (0, 160) else allFrom l 0 []
end Go.Proofs.YtlnhhffhmeekoaaGreatDoor
