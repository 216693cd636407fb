/- The plain words of values: which may be (rightS), how heavy they are (wS), in which order. Plain definitions and facts. -/
import Derived.Test.YtacaknkfddlklaaGreatDoorVal
set_option linter.unusedVariables false
set_option linter.unusedSimpArgs false
namespace Go.Proofs.YtacaknkfddlklaaGreatDoor

/-- are the fields that a kind does not use zero, and the others as they may be? -/
def plainS (kind n : Int) (s : List UInt8) (nl nk : Nat) : Bool :=
  if kind = 0 then decide (n = 0) && (s.isEmpty && (nl == 0 && nk == 0))
  else if kind = 1 then (decide (n = 0) || decide (n = 1)) && (s.isEmpty && (nl == 0 && nk == 0))
  else if kind = 2 then s.isEmpty && (nl == 0 && nk == 0)
  else if kind = 3 then decide (n = 0) && (nl == 0 && nk == 0)
  else if kind = 4 then decide (n = 0) && (s.isEmpty && nk == 0)
  else if kind = 5 then decide (n = 0) && (s.isEmpty && nk == nl)
  else false
def keyOK (p : Option (List UInt8)) (k : List UInt8) : Bool := decide (k.length ≤ 32) && (match p with | none => true | some q => Op.bytesLess q k)
mutual
/-- how heavy a value is, within so many others, behind so much; none: it is not right -/
def wS (around sofar : Nat) : V → Option Nat
  | .mk kind n s l k => if plainS kind n s l.length k.length = true ∧ around < 8 ∧ sofar + 1 + s.length ≤ 2048 then wL around (kind == 5) none (sofar + 1 + s.length) l k else none
def wL (around : Nat) (r : Bool) (p : Option (List UInt8)) (w : Nat) : List V → List (List UInt8) → Option Nat
  | [], _ => some w
  | x :: l, ks =>
    if r = true then
      match ks with
      | [] => none
      | k :: ks' => if keyOK p k = true then
          match wS (around + 1) (w + 1 + k.length) x with
          | some w' => wL around r (some k) w' l ks'
          | none => none
        else none
    else
      match wS (around + 1) w x with
      | some w' => wL around r none w' l ks
      | none => none
end
def rightB (x : V) : Bool := (wS 0 0 x).isSome
mutual
theorem wS_bound {around sofar : Nat} : ∀ {x : V} {w : Nat}, wS around sofar x = some w → sofar < w ∧ w ≤ 2048
  | .mk kind n s l k, w, h => by
    unfold wS at h
    split at h
    · rename_i hc
      have := wL_bound h (by omega)
      omega
    · cases h
theorem wL_bound {around : Nat} {r : Bool} : ∀ {l : List V} {p : Option (List UInt8)} {w : Nat} {ks : List (List UInt8)} {w' : Nat}, wL around r p w l ks = some w' → w ≤ 2048 → w ≤ w' ∧ w' ≤ 2048
  | [], p, w, ks, w', h, hw => by
    unfold wL at h
    injection h with h
    omega
  | x :: l, p, w, ks, w', h, hw => by
    unfold wL at h
    split at h
    · split at h
      · cases h
      · split at h
        · split at h
          · rename_i w1 h1
            have h2 := wS_bound h1
            have h3 := wL_bound h h2.2
            omega
          · cases h
        · cases h
    · split at h
      · rename_i w1 h1
        have h2 := wS_bound h1
        have h3 := wL_bound h h2.2
        omega
      · cases h
end
theorem wS_eq (around sofar : Nat) (x : V) : wS around sofar x = if plainS x.kind x.num x.str x.parts.length x.keys.length = true ∧ around < 8 ∧ sofar + 1 + x.str.length ≤ 2048 then wL around (x.kind == 5) none (sofar + 1 + x.str.length) x.parts x.keys else none := by
  cases x
  rw [wS]
  rfl
theorem wL_nil (around : Nat) (r : Bool) (p : Option (List UInt8)) (w : Nat) (ks : List (List UInt8)) : wL around r p w [] ks = some w := by rw [wL]
theorem wL_rec {around : Nat} {p : Option (List UInt8)} {w : Nat} {x : V} {l : List V} {k : List UInt8} {ks : List (List UInt8)} : wL around true p w (x :: l) (k :: ks) = if keyOK p k = true then (match wS (around + 1) (w + 1 + k.length) x with | some w' => wL around true (some k) w' l ks | none => none) else none := by
  rw [wL, if_pos rfl]
theorem wL_row {around : Nat} {p : Option (List UInt8)} {w : Nat} {x : V} {l : List V} {ks : List (List UInt8)} : wL around false p w (x :: l) ks = match wS (around + 1) w x with | some w' => wL around false none w' l ks | none => none := by
  rw [wL.eq_def]
  simp only [Bool.false_eq_true, if_false]
theorem wL_prev {around : Nat} {p q : Option (List UInt8)} {w : Nat} {l : List V} {ks : List (List UInt8)} : wL around false p w l ks = wL around false q w l ks := by
  cases l with
  | nil => rw [wL_nil, wL_nil]
  | cons x l => rw [wL_row, wL_row]

theorem wL_ks {around : Nat} : ∀ {l : List V} {p q : Option (List UInt8)} {w : Nat} {ks ks' : List (List UInt8)}, wL around false p w l ks = wL around false q w l ks'
  | [], p, q, w, ks, ks' => by rw [wL_nil, wL_nil]
  | x :: l, p, q, w, ks, ks' => by
    rw [wL_row, wL_row]
    split
    · exact wL_ks
    · rfl
theorem plainS_rec {n : Int} {s : List UInt8} {nl nk : Nat} (h : plainS 5 n s nl nk = true) : nk = nl := by
  simp [plainS] at h
  exact h.2.2

/-! the order of texts -/
theorem less_or (a : List UInt8) : ∀ b, Op.bytesLess a b = false → Op.bytesLess b a = true ∨ a = b := by
  induction a with
  | nil =>
    intro b h
    cases b with
    | nil => exact .inr rfl
    | cons y b => simp [Op.bytesLess] at h
  | cons x a ih =>
    intro b h
    cases b with
    | nil => left; simp [Op.bytesLess]
    | cons y b =>
      simp only [Op.bytesLess, Bool.or_eq_false_iff, Bool.and_eq_false_iff, decide_eq_false_iff_not, beq_eq_false_iff_ne, ne_eq] at h
      simp only [Op.bytesLess, Bool.or_eq_true, Bool.and_eq_true, decide_eq_true_eq, beq_iff_eq]
      obtain ⟨h1, h2⟩ := h
      by_cases hxy : x = y
      · subst hxy
        rcases h2 with h2 | h2
        · exact absurd rfl h2
        · rcases ih b h2 with h3 | h3
          · exact .inl (.inr ⟨rfl, h3⟩)
          · exact .inr (by rw [h3])
      · left
        left
        have h1' : ¬ x.toNat < y.toNat := fun h => h1 (UInt8.lt_iff_toNat_lt.2 h)
        have hne : x.toNat ≠ y.toNat := fun h => hxy (UInt8.toNat_inj.1 h)
        exact UInt8.lt_iff_toNat_lt.2 (by omega)
theorem less_irrefl (a : List UInt8) : Op.bytesLess a a = false := by
  induction a with
  | nil => rfl
  | cons x a ih => simp [Op.bytesLess, ih]
theorem less_asymm (a : List UInt8) : ∀ b, Op.bytesLess a b = true → Op.bytesLess b a = false := by
  induction a with
  | nil => intro b h; cases b <;> simp [Op.bytesLess] at *
  | cons x a ih =>
    intro b h
    cases b with
    | nil => simp [Op.bytesLess] at h
    | cons y b =>
      simp only [Op.bytesLess, Bool.or_eq_true, Bool.and_eq_true, decide_eq_true_eq, beq_iff_eq] at h
      simp only [Op.bytesLess, Bool.or_eq_false_iff, Bool.and_eq_false_iff, decide_eq_false_iff_not, beq_eq_false_iff_ne, ne_eq]
      rcases h with h | ⟨h1, h2⟩
      · have := UInt8.lt_iff_toNat_lt.1 h
        refine ⟨fun h' => by have := UInt8.lt_iff_toNat_lt.1 h'; omega, .inl fun h' => ?_⟩
        subst h'
        omega
      · subst h1
        refine ⟨fun h' => by have := UInt8.lt_iff_toNat_lt.1 h'; omega, .inr (ih b h2)⟩
/-- 'b <= a' is 'not a < b' -/
theorem leq_not_less (a b : List UInt8) : (Op.bytesLess b a || b == a) = !Op.bytesLess a b := by
  cases h : Op.bytesLess a b with
  | true =>
    have h1 := less_asymm a b h
    rw [h1]
    simp only [Bool.not_true, Bool.false_or, beq_eq_false_iff_ne, ne_eq]
    rintro rfl
    rw [less_irrefl] at h
    cases h
  | false =>
    rcases less_or a b h with h1 | h1
    · simp [h1]
    · subst h1; simp
end Go.Proofs.YtacaknkfddlklaaGreatDoor
