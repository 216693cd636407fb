/- A value's bytes on the wire, and that they tell it: plain definitions and facts. Two right values are the same just if their order is 0, and just if their bytes on the wire are the same: plain facts. A right value's bytes on the wire tell it. Contracts of num.fresh, PutUint. Contract of num.PutUint. How many bytes a right value has, and bounds of its parts: plain facts. Contracts of num.PutInt, num.PutText, slices.Clone, slices.Clip (of bytes). Contracts of slices.Clone at nil and of slices.Clip (of bytes). Contract of wire.put. -/
import Derived.Test.YtacaknkfddlklaaGreatDoorOrdB
import Derived.Test.YtacaknkfddlklaaGreatDoorValB
import Derived.Laws.CopyOwn
import Derived.Laws.OwnMore
import Derived.Laws.Bits64
import Derived.Lib.AppendStr
import Derived.Test.YtacaknkfddlklaaGreatDoorElemB
import Derived.Deep.RegionLaw
set_option linter.unusedVariables false
set_option linter.unusedSimpArgs false
namespace Go.Proofs.YtacaknkfddlklaaGreatDoor

/-- a number's bytes -/
def uvar (n : Nat) : List UInt8 := if n < 128 then [UInt8.ofNat n] else UInt8.ofNat (n % 128 + 128) :: uvar (n / 128)
termination_by n
decreasing_by omega
/-- with a sign -/
def zig (n : Int) : Nat := if 0 ≤ n then (2 * n).toNat else (-2 * n - 1).toNat
mutual
def encS : V → List UInt8
  | .mk k n s l ks => if k = 1 then [UInt8.ofNat (1 + n).toNat] else if k = 2 then 3 :: uvar (zig n) else if k = 3 then 4 :: (uvar s.length ++ s) else if k = 4 then 5 :: (uvar l.length ++ encL l)
    else if k = 5 then 6 :: (uvar l.length ++ encR l ks) else [0]
def encL : List V → List UInt8
  | [] => []
  | x :: l => encS x ++ encL l
def encR : List V → List (List UInt8) → List UInt8
  | [], _ => []
  | x :: l, ks => uvar (ks.headD []).length ++ ks.headD [] ++ encS x ++ encR l ks.tail
end
theorem zig_inj {a b : Int} (h : zig a = zig b) : a = b := by
  unfold zig at h
  split at h <;> split at h <;> omega
theorem ofNat_inj {a b : Nat} (ha : a < 256) (hb : b < 256) (h : UInt8.ofNat a = UInt8.ofNat b) : a = b := by
  have := congrArg UInt8.toNat h
  simpa [UInt8.toNat_ofNat', Nat.mod_eq_of_lt ha, Nat.mod_eq_of_lt hb] using this
theorem uvar_inj : ∀ (n m : Nat) (r r' : List UInt8), uvar n ++ r = uvar m ++ r' → n = m ∧ r = r' := by
  intro n
  induction n using Nat.strongRecOn with
  | _ n ih =>
    intro m r r' h
    rw [uvar.eq_def n, uvar.eq_def m] at h
    by_cases hn : n < 128
    · by_cases hm : m < 128
      · rw [if_pos hn, if_pos hm] at h
        simp only [List.cons_append, List.nil_append, List.cons.injEq] at h
        exact ⟨ofNat_inj (by omega) (by omega) h.1, h.2⟩
      · rw [if_pos hn, if_neg hm] at h
        simp only [List.cons_append, List.nil_append, List.cons.injEq] at h
        have := ofNat_inj (by omega) (by omega) h.1
        omega
    · by_cases hm : m < 128
      · rw [if_neg hn, if_pos hm] at h
        simp only [List.cons_append, List.nil_append, List.cons.injEq] at h
        have := ofNat_inj (by omega) (by omega) h.1
        omega
      · rw [if_neg hn, if_neg hm] at h
        simp only [List.cons_append, List.cons.injEq] at h
        have h1 := ofNat_inj (by omega) (by omega) h.1
        obtain ⟨h2, h3⟩ := ih (n / 128) (by omega) (m / 128) r r' h.2
        exact ⟨by omega, h3⟩
theorem text_inj {s t r r' : List UInt8} (h : uvar s.length ++ (s ++ r) = uvar t.length ++ (t ++ r')) : s = t ∧ r = r' := by
  obtain ⟨h1, h2⟩ := uvar_inj _ _ _ _ h
  exact List.append_inj h2 h1
end Go.Proofs.YtacaknkfddlklaaGreatDoor
namespace Go.Proofs.YtacaknkfddlklaaGreatDoor

mutual
theorem ordS_self : ∀ X : V, ordS X X = 0
  | .mk k n s l ks => by
    have h := ordL_self (decide (k = 5)) l ks
    have h1 : cmpI k k = 0 := cmpI_zero.2 rfl
    have h2 : cmpI n n = 0 := cmpI_zero.2 rfl
    have h3 : Lib.compareBytes s s = 0 := cmpT_zero.2 rfl
    have h4 : cmpI (l.length : Int) l.length = 0 := cmpI_zero.2 rfl
    rw [ordS]
    simp [orI, h1, h2, h3, h4, h]
theorem ordL_self (r : Bool) : ∀ (l : List V) (ks : List (List UInt8)), ordL r l l ks ks = 0
  | [], ks => ordL_nil1 _ _ _ _
  | x :: l, ks => by
    have h1 := ordS_self x
    have h2 := ordL_self r l ks.tail
    have h3 : Lib.compareBytes (ks.headD []) (ks.headD []) = 0 := cmpT_zero.2 rfl
    rw [ordL, h3, h1, h2]
    cases r <;> rfl
end
theorem plain_nokeys {k n : Int} {s : List UInt8} {nl : Nat} {ks : List (List UInt8)} (h : plainS k n s nl ks.length = true) (hk : k ≠ 5) : ks = [] := by
  apply List.length_eq_zero_iff.1
  unfold plainS at h
  repeat' split at h
  all_goals simp_all
theorem orI_zero {a b : Int} : orI a b = 0 ↔ a = 0 ∧ b = 0 := by
  unfold orI
  split
  · rename_i h; simp [h]
  · rename_i h; simp [h]
mutual
theorem ordS_zero : ∀ X Y : V, Rightish X → Rightish Y → ordS X Y = 0 → X = Y
  | .mk k n s l ks, .mk k' n' s' l' ks', hX, hY, h => by
    rw [ordS, orI_zero] at h
    obtain ⟨h1, h2⟩ := h
    have hh : orI (cmpI k k') (orI (cmpI n n') (Lib.compareBytes s s')) = 0 := by
      by_cases h0 : orI (cmpI k k') (orI (cmpI n n') (Lib.compareBytes s s')) = 0
      · exact h0
      · rw [if_neg h0] at h1; exact h1
    rw [if_pos hh] at h1
    rw [orI_zero, orI_zero] at hh
    obtain ⟨h3, h4, h5⟩ := hh
    have e1 := cmpI_zero.1 h3
    have e2 := cmpI_zero.1 h4
    have e3 := cmpT_zero.1 h5
    have e4 := cmpI_zero.1 h2
    subst e1 e2 e3
    have hl : l.length = l'.length := by omega
    have hpX := hX.plain
    have hpY := hY.plain
    simp only [V.parts, V.kind, V.num, V.str, V.keys] at hpX hpY
    by_cases hk : k = 5
    · have hkX : ks.length = l.length := hX.keys hk
      have hkY : ks'.length = l'.length := hY.keys hk
      rw [decide_eq_true hk] at h1
      obtain ⟨e5, e6⟩ := ordL_zero true l l' ks ks' hl (fun _ => by omega) (fun _ => by omega) hpX.2 hpY.2 h1
      rw [e5, e6 rfl]
    · rw [decide_eq_false hk] at h1
      obtain ⟨e5, _⟩ := ordL_zero false l l' ks ks' hl (fun h => by cases h) (fun h => by cases h) hpX.2 hpY.2 h1
      have e6 : ks = [] := plain_nokeys hpX.1 hk
      have e7 : ks' = [] := plain_nokeys hpY.1 hk
      rw [e5, e6, e7]
theorem ordL_zero (r : Bool) : ∀ (l l' : List V) (ks ks' : List (List UInt8)), l.length = l'.length → (r = true → ks.length = l.length) → (r = true → ks'.length = l'.length) → (∀ i (h : i < l.length), Rightish l[i]) → (∀ i (h : i < l'.length), Rightish l'[i]) → ordL r l l' ks ks' = 0 → l = l' ∧ (r = true → ks = ks')
  | [], [], ks, ks', _, h1, h2, _, _, _ => ⟨rfl, fun h => by
      have a := h1 h; have b := h2 h
      have e1 : ks = [] := List.length_eq_zero_iff.1 (by simpa using a)
      have e2 : ks' = [] := List.length_eq_zero_iff.1 (by simpa using b)
      rw [e1, e2]⟩
  | [], _ :: _, _, _, hl, _, _, _, _, _ => by simp at hl
  | _ :: _, [], _, _, hl, _, _, _, _, _ => by simp at hl
  | x :: l, y :: l', ks, ks', hl, h1, h2, hX, hY, h => by
    rw [ordL] at h
    have hc : (if r = true then Lib.compareBytes (ks.headD []) (ks'.headD []) else 0) = 0 := by
      by_cases h0 : (if r = true then Lib.compareBytes (ks.headD []) (ks'.headD []) else 0) = 0
      · exact h0
      · rw [if_neg h0] at h; exact h
    rw [if_pos hc] at h
    have hs : ordS x y = 0 := by
      by_cases h0 : ordS x y = 0
      · exact h0
      · rw [if_neg h0] at h; exact h
    rw [if_pos hs] at h
    have e1 := ordS_zero x y (hX 0 (by simp)) (hY 0 (by simp)) hs
    have hl' : l.length = l'.length := by simpa using hl
    obtain ⟨e2, e3⟩ := ordL_zero r l l' ks.tail ks'.tail hl' (fun hr => by have := h1 hr; simp at this ⊢; omega) (fun hr => by have := h2 hr; simp at this ⊢; omega)
      (fun i hi => by have := hX (i + 1) (by simpa using hi); simpa using this) (fun i hi => by have := hY (i + 1) (by simpa using hi); simpa using this) h
    refine ⟨by rw [e1, e2], fun hr => ?_⟩
    rw [if_pos hr] at hc
    have e4 := cmpT_zero.1 hc
    have a := h1 hr
    have b := h2 hr
    cases ks with
    | nil => simp at a
    | cons k ks =>
      cases ks' with
      | nil => simp at b
      | cons k' ks' =>
        have e5 := e3 hr
        simp at e4 e5
        rw [e4, e5]
end
end Go.Proofs.YtacaknkfddlklaaGreatDoor
namespace Go.Proofs.YtacaknkfddlklaaGreatDoor

def tg (k n : Int) : UInt8 := if k = 1 then UInt8.ofNat (1 + n).toNat else if k = 2 then 3 else if k = 3 then 4 else if k = 4 then 5 else if k = 5 then 6 else 0
def body (k n : Int) (s : List UInt8) (l : List V) (ks : List (List UInt8)) : List UInt8 :=
  if k = 1 then [] else if k = 2 then uvar (zig n) else if k = 3 then uvar s.length ++ s else if k = 4 then uvar l.length ++ encL l else if k = 5 then uvar l.length ++ encR l ks else []
theorem encS_parts (k n : Int) (s : List UInt8) (l : List V) (ks : List (List UInt8)) : encS (.mk k n s l ks) = tg k n :: body k n s l ks := by
  rw [encS]
  unfold tg body
  repeat' split
  all_goals rfl
/-- what a right value's own fields may be -/
theorem plain_cases {k n : Int} {s : List UInt8} {nl nk : Nat} (h : plainS k n s nl nk = true) :
    (k = 0 ∧ n = 0 ∧ s = [] ∧ nl = 0 ∧ nk = 0) ∨ (k = 1 ∧ (n = 0 ∨ n = 1) ∧ s = [] ∧ nl = 0 ∧ nk = 0) ∨ (k = 2 ∧ s = [] ∧ nl = 0 ∧ nk = 0) ∨ (k = 3 ∧ n = 0 ∧ nl = 0 ∧ nk = 0) ∨ (k = 4 ∧ n = 0 ∧ s = [] ∧ nk = 0) ∨ (k = 5 ∧ n = 0 ∧ s = [] ∧ nk = nl) := by
  unfold plainS at h
  split at h
  · rename_i hk; simp at h; exact Or.inl ⟨hk, h.1, h.2.1, h.2.2.1, h.2.2.2⟩
  · split at h
    · rename_i _ hk; simp at h; exact Or.inr (Or.inl ⟨hk, h.1, h.2.1, h.2.2.1, h.2.2.2⟩)
    · split at h
      · rename_i _ _ hk; simp at h; exact Or.inr (Or.inr (Or.inl ⟨hk, h.1, h.2.1, h.2.2⟩))
      · split at h
        · rename_i _ _ _ hk; simp at h; exact Or.inr (Or.inr (Or.inr (Or.inl ⟨hk, h.1, h.2.1, h.2.2⟩)))
        · split at h
          · rename_i _ _ _ _ hk; simp at h; exact Or.inr (Or.inr (Or.inr (Or.inr (Or.inl ⟨hk, h.1, h.2.1, h.2.2⟩))))
          · split at h
            · rename_i _ _ _ _ _ hk; simp at h; exact Or.inr (Or.inr (Or.inr (Or.inr (Or.inr ⟨hk, h.1, h.2.1, h.2.2⟩))))
            · cases h
theorem tg_inj {k n k' n' : Int} {s s' : List UInt8} {nl nk nl' nk' : Nat} (h1 : plainS k n s nl nk = true) (h2 : plainS k' n' s' nl' nk' = true) (h : tg k n = tg k' n') : k = k' ∧ (k = 1 → n = n') := by
  rcases plain_cases h1 with ⟨rfl, rfl, _⟩ | ⟨rfl, rfl | rfl, _⟩ | ⟨rfl, _⟩ | ⟨rfl, _⟩ | ⟨rfl, _⟩ | ⟨rfl, _⟩ <;>
  rcases plain_cases h2 with ⟨rfl, rfl, _⟩ | ⟨rfl, rfl | rfl, _⟩ | ⟨rfl, _⟩ | ⟨rfl, _⟩ | ⟨rfl, _⟩ | ⟨rfl, _⟩ <;>
  first
  | exact ⟨rfl, fun h => by first | rfl | (exact absurd h (by decide))⟩
  | (exfalso; simp [tg] at h; done)
  | (exfalso; simp [tg] at h; revert h; decide)
  | (exfalso; revert h; simp [tg]; decide)
mutual
theorem encS_inj : ∀ (X Y : V) (r r' : List UInt8), Rightish X → Rightish Y → encS X ++ r = encS Y ++ r' → X = Y ∧ r = r'
  | .mk k n s l ks, .mk k' n' s' l' ks', r, r', hX, hY, h => by
    have pX := hX.plain
    have pY := hY.plain
    simp only [V.parts, V.kind, V.num, V.str, V.keys] at pX pY
    rw [encS_parts, encS_parts, List.cons_append, List.cons_append, List.cons.injEq] at h
    obtain ⟨ht, hb⟩ := h
    obtain ⟨hk, hn⟩ := tg_inj pX.1 pY.1 ht
    subst hk
    rcases plain_cases pX.1 with ⟨h0, h1, h2, h3, h4⟩ | ⟨h0, h1, h2, h3, h4⟩ | ⟨h0, h2, h3, h4⟩ | ⟨h0, h1, h3, h4⟩ | ⟨h0, h1, h2, h4⟩ | ⟨h0, h1, h2, h4⟩
    · rcases plain_cases pY.1 with ⟨g0, g1, g2, g3, g4⟩ | ⟨g0, _⟩ | ⟨g0, _⟩ | ⟨g0, _⟩ | ⟨g0, _⟩ | ⟨g0, _⟩
      · have e1 : l = [] := List.length_eq_zero_iff.1 h3
        have e2 : ks = [] := List.length_eq_zero_iff.1 h4
        have e3 : l' = [] := List.length_eq_zero_iff.1 g3
        have e4 : ks' = [] := List.length_eq_zero_iff.1 g4
        subst h0 h1 h2 e1 e2 g1 g2 e3 e4
        exact ⟨rfl, by simpa [body] using hb⟩
      all_goals (exfalso; omega)
    · rcases plain_cases pY.1 with ⟨g0, _⟩ | ⟨g0, g1, g2, g3, g4⟩ | ⟨g0, _⟩ | ⟨g0, _⟩ | ⟨g0, _⟩ | ⟨g0, _⟩
      · exfalso; omega
      · have e1 : l = [] := List.length_eq_zero_iff.1 h3
        have e2 : ks = [] := List.length_eq_zero_iff.1 h4
        have e3 : l' = [] := List.length_eq_zero_iff.1 g3
        have e4 : ks' = [] := List.length_eq_zero_iff.1 g4
        have e5 := hn h0
        subst h0 h2 e1 e2 g2 e3 e4 e5
        exact ⟨rfl, by simpa [body] using hb⟩
      all_goals (exfalso; omega)
    · rcases plain_cases pY.1 with ⟨g0, _⟩ | ⟨g0, _⟩ | ⟨g0, g2, g3, g4⟩ | ⟨g0, _⟩ | ⟨g0, _⟩ | ⟨g0, _⟩
      · exfalso; omega
      · exfalso; omega
      · have e1 : l = [] := List.length_eq_zero_iff.1 h3
        have e2 : ks = [] := List.length_eq_zero_iff.1 h4
        have e3 : l' = [] := List.length_eq_zero_iff.1 g3
        have e4 : ks' = [] := List.length_eq_zero_iff.1 g4
        subst h0 h2 e1 e2 g2 e3 e4
        simp only [body] at hb
        obtain ⟨e5, e6⟩ := uvar_inj _ _ _ _ hb
        have e7 := zig_inj e5
        subst e7
        exact ⟨rfl, e6⟩
      all_goals (exfalso; omega)
    · rcases plain_cases pY.1 with ⟨g0, _⟩ | ⟨g0, _⟩ | ⟨g0, _⟩ | ⟨g0, g1, g3, g4⟩ | ⟨g0, _⟩ | ⟨g0, _⟩
      · exfalso; omega
      · exfalso; omega
      · exfalso; omega
      · have e1 : l = [] := List.length_eq_zero_iff.1 h3
        have e2 : ks = [] := List.length_eq_zero_iff.1 h4
        have e3 : l' = [] := List.length_eq_zero_iff.1 g3
        have e4 : ks' = [] := List.length_eq_zero_iff.1 g4
        subst h0 h1 e1 e2 g1 e3 e4
        have hb' : uvar s.length ++ (s ++ r) = uvar s'.length ++ (s' ++ r') := by simpa [body] using hb
        obtain ⟨e5, e6⟩ := text_inj hb'
        subst e5
        exact ⟨rfl, e6⟩
      all_goals (exfalso; omega)
    · rcases plain_cases pY.1 with ⟨g0, _⟩ | ⟨g0, _⟩ | ⟨g0, _⟩ | ⟨g0, _⟩ | ⟨g0, g1, g2, g4⟩ | ⟨g0, _⟩
      · exfalso; omega
      · exfalso; omega
      · exfalso; omega
      · exfalso; omega
      · have e2 : ks = [] := List.length_eq_zero_iff.1 h4
        have e4 : ks' = [] := List.length_eq_zero_iff.1 g4
        subst h0 h1 h2 e2 g1 g2 e4
        have hb' : uvar l.length ++ (encL l ++ r) = uvar l'.length ++ (encL l' ++ r') := by simpa [body] using hb
        obtain ⟨e5, e6⟩ := uvar_inj _ _ _ _ hb'
        obtain ⟨e7, e8⟩ := encL_inj l l' r r' e5 pX.2 pY.2 e6
        subst e7
        exact ⟨rfl, e8⟩
      · exfalso; omega
    · rcases plain_cases pY.1 with ⟨g0, _⟩ | ⟨g0, _⟩ | ⟨g0, _⟩ | ⟨g0, _⟩ | ⟨g0, _⟩ | ⟨g0, g1, g2, g4⟩
      · exfalso; omega
      · exfalso; omega
      · exfalso; omega
      · exfalso; omega
      · exfalso; omega
      · subst h0 h1 h2 g1 g2
        have hb' : uvar l.length ++ (encR l ks ++ r) = uvar l'.length ++ (encR l' ks' ++ r') := by simpa [body] using hb
        obtain ⟨e5, e6⟩ := uvar_inj _ _ _ _ hb'
        obtain ⟨e7, e8, e9⟩ := encR_inj l l' ks ks' r r' e5 h4 g4 pX.2 pY.2 e6
        subst e7 e8
        exact ⟨rfl, e9⟩
theorem encL_inj : ∀ (l l' : List V) (r r' : List UInt8), l.length = l'.length → (∀ i (h : i < l.length), Rightish l[i]) → (∀ i (h : i < l'.length), Rightish l'[i]) → encL l ++ r = encL l' ++ r' → l = l' ∧ r = r'
  | [], [], r, r', _, _, _, h => by simpa [encL] using h
  | [], _ :: _, _, _, hl, _, _, _ => by simp at hl
  | _ :: _, [], _, _, hl, _, _, _ => by simp at hl
  | x :: l, y :: l', r, r', hl, hX, hY, h => by
    rw [encL, encL, List.append_assoc, List.append_assoc] at h
    obtain ⟨e1, e2⟩ := encS_inj x y _ _ (hX 0 (by simp)) (hY 0 (by simp)) h
    obtain ⟨e3, e4⟩ := encL_inj l l' r r' (by simpa using hl) (fun i hi => by have := hX (i + 1) (by simpa using hi); simpa using this) (fun i hi => by have := hY (i + 1) (by simpa using hi); simpa using this) e2
    rw [e1, e3]
    exact ⟨rfl, e4⟩
theorem encR_inj : ∀ (l l' : List V) (ks ks' : List (List UInt8)) (r r' : List UInt8), l.length = l'.length → ks.length = l.length → ks'.length = l'.length → (∀ i (h : i < l.length), Rightish l[i]) → (∀ i (h : i < l'.length), Rightish l'[i]) → encR l ks ++ r = encR l' ks' ++ r' → l = l' ∧ ks = ks' ∧ r = r'
  | [], [], ks, ks', r, r', _, h1, h2, _, _, h => by
    have e1 : ks = [] := List.length_eq_zero_iff.1 (by simpa using h1)
    have e2 : ks' = [] := List.length_eq_zero_iff.1 (by simpa using h2)
    subst e1 e2
    exact ⟨rfl, rfl, by simpa [encR] using h⟩
  | [], _ :: _, _, _, _, _, hl, _, _, _, _, _ => by simp at hl
  | _ :: _, [], _, _, _, _, hl, _, _, _, _, _ => by simp at hl
  | x :: l, y :: l', ks, ks', r, r', hl, h1, h2, hX, hY, h => by
    cases ks with
    | nil => simp at h1
    | cons k ks =>
      cases ks' with
      | nil => simp at h2
      | cons k' ks' =>
        have h' : uvar k.length ++ (k ++ (encS x ++ (encR l ks ++ r))) = uvar k'.length ++ (k' ++ (encS y ++ (encR l' ks' ++ r'))) := by
          simpa [encR, List.append_assoc] using h
        obtain ⟨e0, e00⟩ := text_inj h'
        obtain ⟨e1, e2⟩ := encS_inj x y _ _ (hX 0 (by simp)) (hY 0 (by simp)) e00
        obtain ⟨e3, e4, e5⟩ := encR_inj l l' ks ks' r r' (by simpa using hl) (by simpa using h1) (by simpa using h2) (fun i hi => by have := hX (i + 1) (by simpa using hi); simpa using this) (fun i hi => by have := hY (i + 1) (by simpa using hi); simpa using this) e2
        rw [e0, e1, e3, e4]
        exact ⟨rfl, rfl, e5⟩
end
/-- eq is where the bytes are the same -/
theorem order_bytes {X Y : V} (hX : rightB X = true) (hY : rightB Y = true) : ordS X Y = 0 ↔ encS X = encS Y := by
  constructor
  · intro h
    rw [ordS_zero X Y (rightish_of hX) (rightish_of hY) h]
  · intro h
    have := (encS_inj X Y [] [] (rightish_of hX) (rightish_of hY) (by rw [h])).1
    rw [this]
    exact ordS_self Y
end Go.Proofs.YtacaknkfddlklaaGreatDoor
namespace Go.Proofs.YtacaknkfddlklaaGreatDoor
open Go.RowKit Go.IntWalk

/-- a slice of bytes that reads as l -/
def RdBy (w : World) (v : Value) (l : List UInt8) : Prop := ∃ A cap, v = .slice A l.length cap ∧ (0 < l.length → ∃ g off, A = some ⟨g, off, none⟩ ∧ ∀ j u, (bvals l)[j]? = some u → w.cell? ⟨g, off + j, none⟩ = some u)
theorem RdBy.below {w w1 : World} {v : Value} {l : List UInt8} (h : RdBy w v l) (hb : Below w.heap.size w w1) : RdBy w1 v l := by
  obtain ⟨A, cap, hv, hc⟩ := h
  refine ⟨A, cap, hv, fun h0 => ?_⟩
  obtain ⟨g, off, hA, h⟩ := hc h0
  exact ⟨g, off, hA, fun j u hj => bcell hb (h j u hj)⟩
theorem RdBy.own {ok : Nat → Prop} {w : World} {v : Value} {l : List UInt8} (h : OwnB ok w v l) : RdBy w v l := by
  obtain ⟨A, c, rfl, _⟩ := OwnR.slice h
  refine ⟨A, c, rfl, fun h0 => ?_⟩
  obtain ⟨g, cap, hv, _, _, hc⟩ := OwnR.form h h0
  injection hv with h1 _ _
  exact ⟨g, 0, h1, fun j u hj => by rw [Nat.zero_add]; exact hc j u hj⟩
theorem make_bytes (n : Nat) (hn : n ≤ 1000000) (w : World) : (Instr.makeSlice 40 (.int .i64 (n : Int)) (.int .i64 ((n : Int) + 10))).run Tryz.prog w = .ok (.slice (some ⟨w.heap.size, 0, none⟩) n (n + 10)) (w.alloc (.cells (List.replicate (n + 10) (.int .u8 0)).toArray 5)) := by
  obtain ⟨i, hi, hz0, hz1, hz2⟩ := info_parts Tryz.infoU8
  have h := run_make (P := Tryz.prog) w 40 5 i _ Tryz.underlying40 hi hz0 .i64 .i64 (n : Int) ((n : Int) + 10) (by omega) (by omega) (by rw [hz2]; omega) (by omega)
  rw [hz1] at h
  have h2 : madeCells (Value.int IntKind.u8 0).cells (((n : Int) + 10).toNat * 1) = (List.replicate (n + 10) (.int .u8 0)).toArray := by
    apply Array.toList_inj.1
    rw [show ((n : Int) + 10).toNat * 1 = n + 10 by omega]
    exact toList_madeCells_one _ _
  rw [h2, show ((n : Int) + 10).toNat = n + 10 by omega, show (n : Int).toNat = n by omega] at h
  exact h
theorem fresh_pos {w : World} {X : Obj} {A : Option Addr} {l : List UInt8} {cs : List Value} {g : Nat} (h : 0 < l.length → ∃ g off, A = some ⟨g, off, none⟩ ∧ ∀ j u, (bvals l)[j]? = some u → w.cell? ⟨g, off + j, none⟩ = some u) (hc : cs = bvals l) :
    0 < cs.length → (some (⟨g, 0, none⟩ : Addr) = some ⟨g, 0, none⟩) ∧ ∃ ad, A = some ad ∧ ∀ j v, cs[j]? = some v → (w.alloc X).cell? (ad.add j) = some v := by
  intro h0
  subst hc
  obtain ⟨g', off, rfl, hh⟩ := h (by rwa [bvals_len] at h0)
  refine ⟨rfl, _, rfl, fun j v hj => ?_⟩
  have ha : (⟨g', off, none⟩ : Addr).add j = ⟨g', off + j, none⟩ := by unfold Addr.add; split <;> simp_all
  rw [ha]
  exact bcell ((Below.refl _ _).alloc (Nat.le_refl _) _) (hh j v hj)
theorem fresh_own {w : World} {g : Nat} {l : List UInt8} {cs cur : List Value} (hg : w.heap[g]? = some (.cells (splice cur 0 cs).toArray 5 (0, 0))) (hc : cs = bvals l) (hu : cur = List.replicate (l.length + 10) (.int .u8 0)) (hl : l.length ≤ 1000000) :
    OwnB (newB g) w (.slice (some ⟨g, 0, none⟩) l.length (l.length + 10)) l := by
  subst hc hu
  have h1 : (splice (List.replicate (l.length + 10) (Value.int .u8 0)) 0 (bvals l)).length = l.length + 10 := by
    rw [length_splice _ _ _ (by simp [bvals_len])]; simp
  refine ⟨⟨by rw [bvals_len]; omega, .inr ⟨g, l.length + 10, _, rfl, Nat.zero_le _, hg, by omega, by unfold maxLen; omega, by rw [List.size_toArray, h1]; omega, ?_⟩⟩, fun k hk => by simp [Value.ownBlock] at hk; exact Nat.le_of_eq hk⟩
  show List.take (l.length * 1) (splice _ 0 (bvals l)) = bvals l
  unfold splice
  rw [List.take_zero, List.nil_append, Nat.mul_one, ← bvals_len l, List.take_left]
set_option maxRecDepth 20000 in
set_option maxHeartbeats 1000000 in
theorem num_fresh (l : List UInt8) (hl : l.length ≤ 1000000) (v : Value) (w : World) (hv : RdBy w v l) :
    Calls Tryz.prog 148 #[v] w fun e w' => ∃ v', e = .returned v' ∧ OwnB (newB w.heap.size) w' v' l ∧ Below w.heap.size w w' := by
  obtain ⟨A, cap, rfl, hc⟩ := hv
  have hmk := make_bytes l.length hl
  have hi64 : ∀ x : Int, -9223372036854775808 ≤ x ∧ x ≤ 9223372036854775807 → IntKind.i64.wrap x = x := fun x h => IntWalk.i64_in x h
  have HC := Lib.hid hc
  obtain ⟨cs, hcs⟩ : ∃ cs, cs = bvals l := ⟨_, rfl⟩
  have HCS := Lib.hid hcs
  obtain ⟨cur, hcur⟩ : ∃ cur : List Value, cur = List.replicate (l.length + 10) (.int .u8 0) := ⟨_, rfl⟩
  have HCU := Lib.hid hcur
  rw [← hcur] at hmk
  have hle : (l.length : Int) ≤ 1000000 := by omega
  have Hl := Lib.hid hl
  clear hc hcs hcur hl
  go_enter Tryz.func148, Tryz.ntmps148
  go_wp2_with (first | (refine wpList_copy_splice rfl _ _ _ _ rfl 5 Tryz.underlying40 (by kernel_rfl) _ _ _ _ _ _ rfl rfl w.heap.size 0 cur 5 (heap_alloc_new w _) cs (by rw [HCS.out, bvals_len]; simp) (fresh_pos HC.out HCS.out) (by rw [HCS.out, HCU.out, bvals_len, List.length_replicate]; omega) (by rw [HCS.out]; exact bvals_one l) w.heap.size w ((Below.refl _ _).alloc (Nat.le_refl _) _) (Nat.le_refl _) ?_) | fail)
  intro w2 hg2 hb2
  have HG := Lib.hid hg2
  have HB := Lib.hid hb2
  clear hg2 hb2
  go_wp2_with fail
  go_ret
  exact ⟨_, rfl, fresh_own HG.out.out HCS.out HCU.out Hl.out, HB.out⟩
end Go.Proofs.YtacaknkfddlklaaGreatDoor
namespace Go.Proofs.YtacaknkfddlklaaGreatDoor
open Go.RowKit Go.IntWalk

theorem uvar_len : ∀ (k n : Nat), n < 128 ^ (k + 1) → (uvar n).length ≤ k + 1 := by
  intro k
  induction k with
  | zero =>
    intro n h
    rw [uvar]
    rw [if_pos (by omega)]
    simp
  | succ k ih =>
    intro n h
    rw [uvar]
    by_cases hn : n < 128
    · rw [if_pos hn]; simp
    · rw [if_neg hn, List.length_cons]
      have := ih (n / 128) (by rw [Nat.pow_succ] at h; omega)
      omega
theorem uvar_ten {n : Nat} (h : n < 18446744073709551616) : (uvar n).length ≤ 10 := by
  have h2 : (128 : Nat) ^ (9 + 1) = 1180591620717411303424 := by decide
  exact uvar_len 9 n (by rw [h2]; omega)
theorem byte1 {m : Nat} (h : m < 256) : (#[.int .u8 (m : Int)] : Array Value) = (bvals [UInt8.ofNat m]).toArray := by
  simp [bvals, UInt8.toNat_ofNat', Nat.mod_eq_of_lt h]
set_option maxRecDepth 100000 in
theorem or128 : ∀ x : Fin 256, bits BinOp.or IntKind.u8 ((x.val : Nat) : Int) 128 = ((x.val % 128 + 128 : Nat) : Int) := by decide
theorem byte2 (m : Nat) : (#[.int .u8 (bits BinOp.or IntKind.u8 ((m : Int) % 256) 128)] : Array Value) = (bvals [UInt8.ofNat (m % 128 + 128)]).toArray := by
  have h := or128 ⟨m % 256, Nat.mod_lt _ (by decide)⟩
  simp only at h
  rw [show ((m : Int) % 256) = ((m % 256 : Nat) : Int) by omega, h, show m % 256 % 128 = m % 128 by omega]
  exact byte1 (by omega)
set_option maxRecDepth 20000 in
set_option maxHeartbeats 1000000 in
theorem num_PutUint (n : Nat) (hn : n < 18446744073709551616) (l : List UInt8) (hl : l.length ≤ 1000000) (v : Value) (w : World) (hv : RdBy w v l) :
    Calls Tryz.prog 125 #[v, .int .u64 (n : Int)] w fun e w' => ∃ v', e = .returned v' ∧ OwnB (newB w.heap.size) w' v' (l ++ uvar n) ∧ Below w.heap.size w w' := by
  have hten := uvar_ten hn
  go_enter Tryz.func125, Tryz.ntmps125
  go_wp2_with fail
  refine (num_fresh l hl v w hv).mono ?_
  rintro e w1 ⟨v1, rfl, ho, hb⟩
  have HO := Lib.hid ho
  have HB := Lib.hid hb
  have Hn := Lib.hid hn
  have Hlen := Lib.hid (show (l ++ uvar n).length ≤ 1000010 by rw [List.length_append]; omega)
  clear ho hb hv hten hl hn
  go_wp2_with fail
  go_loopw [1, 5] (fun nn out wr => ∃ (m : Nat) (acc : List UInt8), nn = .int .u64 (m : Int) ∧ OwnB (newB w.heap.size) wr out acc ∧ Below w.heap.size w wr ∧ acc ++ uvar m = l ++ uvar n ∧ m ≤ n) (fun nn _ _ => (intOf nn).toNat)
  case atStart => exact ⟨n, l, rfl, HO.out, HB.out, rfl, Nat.le_refl _⟩
  case round =>
    obtain ⟨m, acc, rfl, hO, hB, hE, hmn⟩ := hrel
    have HO1 := Lib.hid hO
    have HB1 := Lib.hid hB
    have HE := Lib.hid hE
    have hm0 : (0 : Int) ≤ (m : Int) := by omega
    have hm1 : (m : Int) ≤ 18446744073709551615 := by have := Hn.out; omega
    have hacc : acc.length ≤ 1000010 := by
      have h1 := Hlen.out
      have h2 := congrArg List.length hE
      rw [List.length_append] at h2
      omega
    have Hacc := Lib.hid hacc
    clear hO hB hE hacc
    by_cases hlt : m < 128
    · have hge : ¬ (128 : Int) ≤ (m : Int) := by omega
      have Hlt := Lib.hid hlt
      clear hlt
      go_wp2_with (first | (at_builtin; refine wpB_append _ [UInt8.ofNat m] (.tmp 18) (.tmp 21) rfl rfl _ (byte1 (Nat.lt_trans Hlt.out (by decide))) 1 1 rfl rfl rfl HO1.out (Fr.of_below HB1.out) (by have := Hacc.out; omega) (fun k h => Nat.le_trans HB1.out.size h) ?_; intro v2 w2 h1 h2) | fail)
      have H1 := Lib.hid h1
      have H2 := Lib.hid h2
      clear h1 h2
      go_wp2_with fail
      go_ret
      have hu : uvar m = [UInt8.ofNat m] := by rw [uvar, if_pos Hlt.out]
      exact ⟨_, rfl, by rw [← HE.out, hu]; exact H1.out, H2.out.to_below fun k hk h => by simp only [newB] at h; omega⟩
    · have hge : (128 : Int) ≤ (m : Int) := by omega
      have Hlt := Lib.hid hlt
      clear hlt
      go_wp2_with (first | (at_builtin; refine wpB_append _ [UInt8.ofNat (m % 128 + 128)] (.tmp 10) (.tmp 14) rfl rfl _ (byte2 m) 1 1 rfl rfl rfl HO1.out (Fr.of_below HB1.out) (by have := Hacc.out; omega) (fun k h => Nat.le_trans HB1.out.size h) ?_; intro v2 w2 h1 h2) | fail)
      have H1 := Lib.hid h1
      have H2 := Lib.hid h2
      clear h1 h2
      go_wp2_with fail
      have hu : uvar m = UInt8.ofNat (m % 128 + 128) :: uvar (m / 128) := (uvar.eq_def m).trans (if_neg Hlt.out)
      refine ⟨⟨m / 128, acc ++ [UInt8.ofNat (m % 128 + 128)], by rw [show ((m : Int) / 128) = ((m / 128 : Nat) : Int) by omega], H1.out, H2.out.to_below fun k hk h => by simp only [newB] at h; omega, ?_, by omega⟩, by simp [intOf]; omega⟩
      rw [← HE.out, hu, List.append_assoc]
      rfl
end Go.Proofs.YtacaknkfddlklaaGreatDoor
namespace Go.Proofs.YtacaknkfddlklaaGreatDoor

theorem wL_count {around : Nat} {r : Bool} : ∀ {l : List V} {p : Option (List UInt8)} {w : Nat} {ks : List (List UInt8)} {w' : Nat}, wL around r p w l ks = some w' → w + l.length ≤ w'
  | [], p, w, ks, w', h => by
    rw [wL_nil] at h
    injection h with h
    simp
    omega
  | x :: l, p, w, ks, w', h => by
    unfold wL at h
    split at h
    · split at h
      · cases h
      · split at h
        · split at h
          · rename_i w1 h1
            have h2 := wS_bound h1
            have h3 := wL_count h
            rw [List.length_cons]
            omega
          · cases h
        · cases h
    · split at h
      · rename_i w1 h1
        have h2 := wS_bound h1
        have h3 := wL_count h
        rw [List.length_cons]
        omega
      · cases h
theorem wL_keys {around : Nat} : ∀ {l : List V} {p : Option (List UInt8)} {w : Nat} {ks : List (List UInt8)} {w' : Nat}, wL around true p w l ks = some w' → ks.length = l.length → ∀ j (h : j < ks.length), (ks[j]).length ≤ 32
  | [], p, w, ks, w', h, hl, j, hj => by rw [hl] at hj; simp at hj
  | x :: l, p, w, [], w', h, hl, j, hj => by simp at hj
  | x :: l, p, w, k :: ks, w', h, hl, j, hj => by
    rw [wL_rec] at h
    split at h
    · rename_i hk
      split at h
      · rename_i w1 h1
        cases j with
        | zero =>
          simp only [keyOK, Bool.and_eq_true, decide_eq_true_eq] at hk
          exact hk.1
        | succ j => exact wL_keys h (by simpa using hl) j (by simpa using hj)
      · cases h
    · cases h
/-- bounds of a right value's parts -/
theorem Rightish.bounds {X : V} (h : Rightish X) : X.str.length ≤ 2048 ∧ X.parts.length ≤ 2048 ∧ (X.kind = 5 → ∀ j (hj : j < X.keys.length), (X.keys[j]).length ≤ 32) := by
  have hkk := Rightish.keys h
  obtain ⟨a, b, h⟩ := h
  obtain ⟨w, hw⟩ := Option.isSome_iff_exists.1 h
  have hb := (wS_bound hw).2
  rw [wS_eq] at hw
  split at hw
  · rename_i hc
    have h1 := wL_count hw
    refine ⟨by omega, by omega, fun hk => ?_⟩
    have h5 : (X.kind == 5) = true := by simp [hk]
    rw [h5] at hw
    exact wL_keys hw (hkk hk)
  · cases hw
theorem zig_lt64 {n : Int} (h : i64ok n) : zig n < 18446744073709551616 := by
  unfold zig i64ok at *
  split <;> omega
mutual
theorem encS_len {ok : Nat → Prop} {wd : World} : ∀ {around sofar : Nat} (x : V) {v : Value} {w : Nat}, RdV ok wd v x → wS around sofar x = some w → (encS x).length + 11 * sofar ≤ 11 * w
  | around, sofar, .mk k n s l ks, v, w, hr, h => by
    have hn := hr.open.2.1
    obtain ⟨_, _, _, lv, kv, _, _, hls, _⟩ := hr.open
    simp only [V.num, V.parts] at hn hls
    have hb := (wS_bound h).2
    have hkk : k = 5 → ks.length = l.length := fun hk => Rightish.keys (X := .mk k n s l ks) ⟨around, sofar, by rw [h]; rfl⟩ hk
    unfold wS at h
    split at h
    · rename_i hc
      have hcnt := wL_count h
      have u1 := uvar_ten (n := s.length) (by omega)
      have u2 := uvar_ten (n := l.length) (by omega)
      have u3 := uvar_ten (zig_lt64 hn)
      rw [encS]
      split
      · simp; omega
      · split
        · simp; omega
        · split
          · simp; omega
          · split
            · rename_i _ _ _ h4
              subst h4
              have := encL_len l hls h
              simp
              omega
            · split
              · rename_i _ _ _ _ h5
                subst h5
                have := encR_len l hls h (hkk rfl)
                simp
                omega
              · simp; omega
    · cases h
theorem encL_len {ok : Nat → Prop} {wd : World} : ∀ {around sofar : Nat} (l : List V) {lv : Value} {i : Nat} {p : Option (List UInt8)} {ks : List (List UInt8)} {w : Nat}, RdVs ok wd lv i l → wL around false p sofar l ks = some w → (encL l).length + 11 * sofar ≤ 11 * w
  | around, sofar, [], lv, i, p, ks, w, hr, h => by
    rw [wL_nil] at h
    injection h with h
    rw [encL]
    simp
    omega
  | around, sofar, x :: l, lv, i, p, ks, w, hr, h => by
    unfold RdVs at hr
    obtain ⟨⟨g, o, v, _, _, h3⟩, h4⟩ := hr
    rw [wL_row] at h
    split at h
    · rename_i w1 h1
      have e1 := encS_len x h3 h1
      have e2 := encL_len l h4 h
      rw [encL, List.length_append]
      omega
    · cases h
theorem encR_len {ok : Nat → Prop} {wd : World} : ∀ {around sofar : Nat} (l : List V) {lv : Value} {i : Nat} {p : Option (List UInt8)} {ks : List (List UInt8)} {w : Nat}, RdVs ok wd lv i l → wL around true p sofar l ks = some w → ks.length = l.length → (encR l ks).length + 11 * sofar ≤ 11 * w
  | around, sofar, [], lv, i, p, ks, w, hr, h, hl => by
    rw [wL_nil] at h
    injection h with h
    rw [encR]
    simp
    omega
  | around, sofar, x :: l, lv, i, p, [], w, hr, h, hl => by simp at hl
  | around, sofar, x :: l, lv, i, p, k :: ks, w, hr, h, hl => by
    unfold RdVs at hr
    obtain ⟨⟨g, o, v, _, _, h3⟩, h4⟩ := hr
    rw [wL_rec] at h
    split at h
    · split at h
      · rename_i hk _ w1 h1
        simp only [keyOK, Bool.and_eq_true, decide_eq_true_eq] at hk
        have u1 := uvar_ten (n := k.length) (by omega)
        have e1 := encS_len x h3 h1
        have e2 := encR_len l h4 h (by simpa using hl)
        rw [encR]
        simp
        omega
      · cases h
    · cases h
end
theorem enc_len {ok : Nat → Prop} {wd : World} {x : V} {v : Value} (h : RdV ok wd v x) (hr : rightB x = true) : (encS x).length ≤ 22528 := by
  obtain ⟨w, hw⟩ := Option.isSome_iff_exists.1 hr
  have h1 := (wS_bound hw).2
  have h2 := encS_len x h hw
  omega
end Go.Proofs.YtacaknkfddlklaaGreatDoor
namespace Go.Proofs.YtacaknkfddlklaaGreatDoor
open Go.RowKit Go.IntWalk

theorem zig_bits (n : Int) (h : i64ok n) : IntKind.u64.wrap (bits BinOp.xor IntKind.i64 (wrap64 (n * 2)) (n / 9223372036854775808)) = (zig n : Int) := by
  obtain ⟨h1, h2⟩ := h
  show IntKind.u64.wrap (IntKind.i64.wrap (((BitVec.ofInt 64 (wrap64 (n * 2)) ^^^ BitVec.ofInt 64 (n / 9223372036854775808)).toNat : Nat) : Int)) = _
  by_cases h0 : 0 ≤ n
  · have d : n / 9223372036854775808 = 0 := by omega
    rw [d, show BitVec.ofInt 64 0 = 0#64 from rfl, BitVec.xor_zero, BitVec.toNat_ofInt, IntKind.wrap_u64, IntKind.wrap_i64]
    unfold wrap64 zig
    rw [if_pos h0]
    omega
  · have d : n / 9223372036854775808 = -1 := by omega
    rw [d, show BitVec.ofInt 64 (-1) = BitVec.allOnes 64 by decide, BitVec.xor_allOnes, BitVec.toNat_not, BitVec.toNat_ofInt, IntKind.wrap_u64, IntKind.wrap_i64]
    unfold wrap64 zig
    rw [if_neg h0]
    omega
theorem zig_lt {n : Int} (h : i64ok n) : zig n < 18446744073709551616 := by
  obtain ⟨h1, h2⟩ := h
  unfold zig
  split <;> omega
set_option maxRecDepth 20000 in
set_option maxHeartbeats 1000000 in
theorem num_PutInt (n : Int) (hn : i64ok n) (l : List UInt8) (hl : l.length ≤ 1000000) (v : Value) (w : World) (hv : RdBy w v l) :
    Calls Tryz.prog 123 #[v, .int .i64 n] w fun e w' => ∃ v', e = .returned v' ∧ OwnB (newB w.heap.size) w' v' (l ++ uvar (zig n)) ∧ Below w.heap.size w w' := by
  have hn1 := hn.1
  have hn2 := hn.2
  go_enter Tryz.func123, Tryz.ntmps123
  go_wp2_with fail
  rw [zig_bits n hn]
  refine (num_PutUint (zig n) (zig_lt hn) l hl v w hv).mono ?_
  rintro e w1 ⟨v1, rfl, ho, hb⟩
  have HO := Lib.hid ho
  have HB := Lib.hid hb
  clear ho hb hv hn hn1 hn2
  go_wp2_with fail
  go_ret
  exact ⟨_, rfl, HO.out, HB.out⟩
theorem own_base {b : Nat} {w : World} {v : Value} {l : List UInt8} (h : OwnB (newB b) w v l) : w.ownsRow b 5 1 v l.length (bvals l) := by
  refine ⟨h.row.1, ?_⟩
  rcases h.row.2 with h2 | ⟨g, cap, cur, rfl, _, r⟩
  · exact .inl h2
  · exact .inr ⟨g, cap, cur, rfl, h.blk g rfl, r⟩
theorem base_own {b : Nat} {w : World} {v : Value} {l : List UInt8} (h : w.ownsRow b 5 1 v l.length (bvals l)) : OwnB (newB b) w v l := by
  refine ⟨⟨h.1, ?_⟩, fun k hk => (h.lt k hk).1⟩
  rcases h.2 with h2 | ⟨g, cap, cur, rfl, _, r⟩
  · exact .inl h2
  · exact .inr ⟨g, cap, cur, rfl, Nat.zero_le _, r⟩
theorem strCells_list (s : List UInt8) : Lib.strCells ⟨s.toArray⟩ = bvals s := by
  simp [Lib.strCells, bvals]
/-- append(b, s...), s a text -/
theorem wpB_append_str {ops : Array Oper} {rest : List Oper} {o : Oper} {a : Act} {Q : Exit → Act → World → Prop} {w0 w : World} (hgd : o.guard = none) (sl x : Operand)
    (ho : o.op = .call { callee := .builtin .append, args := #[sl, x], argTypes := #[40, 9] }) {v : Value} (hs : a.eval sl = v) {l : List UInt8} (HO : OwnB (newB w0.heap.size) w v l) (s : List UInt8) (hx : a.eval x = .string ⟨s.toArray⟩)
    (hl : l.length + s.length ≤ 140737488355328) (hb : Below w0.heap.size w0 w)
    (h : ∀ v1 w1, OwnB (newB w0.heap.size) w1 v1 (l ++ s) → Below w0.heap.size w0 w1 → wpList Tryz.prog ops Q rest (a.put o.dst v1) w1) : wpList Tryz.prog ops Q (o :: rest) a w := by
  obtain ⟨i, hi, hz0, hz1, hz2⟩ := info_parts Tryz.infoU8
  have hsz : (⟨s.toArray⟩ : ByteArray).size = s.length := by simp [ByteArray.size]
  refine Lib.wpList_append_own_string w hgd sl x 40 9 ho w0.heap.size 5 i Tryz.underlying40 Tryz.underlying9 hi hz0 hz1 hz2 v l.length (bvals l) hs (own_base HO) ⟨s.toArray⟩ hx (by rw [hsz]; unfold maxLen; omega) (by rw [hsz]; omega) hb.size ?_
  intro v1 w1 h1 h2 _
  rw [hsz, strCells_list, ← bvals_append, ← List.length_append] at h1
  exact h v1 w1 (base_own h1) ⟨h2.os.trans hb.os, h2.tape.trans hb.tape, h2.output.trans hb.output, Nat.le_trans hb.size h2.size, fun k hk => (h2.block k (Nat.lt_of_lt_of_le hk hb.size) (fun e => by
    have := HO.blk k e.symm
    simp only [newB] at this
    omega)).trans (hb.block k hk)⟩
set_option maxRecDepth 20000 in
set_option maxHeartbeats 1000000 in
theorem num_PutText (s : List UInt8) (hs : s.length ≤ 1000000) (l : List UInt8) (hl : l.length ≤ 1000000) (v : Value) (w : World) (hv : RdBy w v l) :
    Calls Tryz.prog 124 #[v, .string ⟨s.toArray⟩] w fun e w' => ∃ v', e = .returned v' ∧ OwnB (newB w.heap.size) w' v' (l ++ (uvar s.length ++ s)) ∧ Below w.heap.size w w' := by
  go_enter Tryz.func124, Tryz.ntmps124
  go_wp2_with fail
  refine (num_PutUint s.length (by omega) l hl v w hv).mono ?_
  rintro e w1 ⟨v1, rfl, ho, hb⟩
  have HO := Lib.hid ho
  have HB := Lib.hid hb
  have hten := uvar_ten (n := s.length) (by omega)
  have Hs := Lib.hid (And.intro hs (And.intro hl hten))
  clear ho hb hv hs hl hten
  go_wp2_with (first | (refine wpB_append_str rfl _ _ rfl rfl HO.out s rfl (by have := Hs.out; rw [List.length_append]; omega) HB.out ?_; intro v2 w2 h1 h2) | fail)
  have H1 := Lib.hid h1
  have H2 := Lib.hid h2
  clear h1 h2
  go_wp2_with fail
  go_ret
  exact ⟨_, rfl, by rw [← List.append_assoc]; exact H1.out, H2.out⟩
end Go.Proofs.YtacaknkfddlklaaGreatDoor
namespace Go.Proofs.YtacaknkfddlklaaGreatDoor
open Go.RowKit Go.IntWalk

set_option maxRecDepth 20000 in
set_option maxHeartbeats 1000000 in
theorem clone_nil (w : World) : Calls Tryz.prog 100 #[.slice none 0 0] w fun e w' => e = .returned (.slice none 0 0) ∧ w' = w := by
  have hbin : ∀ W : World, (binOp BinOp.eql 40 (.slice none 0 0) (.slice none 0 0)).run Tryz.prog W = .ok (.bool true) W := fun W => by first | rfl | (simp [binOp, go_sem]; done) | (kernel_rfl)
  go_enter Tryz.func100, Tryz.ntmps100
  go_wp2
  go_ret
  exact ⟨rfl, rfl⟩
set_option maxRecDepth 20000 in
set_option maxHeartbeats 1000000 in
theorem clip_any (A : Option Addr) (n cap : Nat) (hn : n ≤ cap) (hc : cap ≤ 9223372036854775807) (w : World) : Calls Tryz.prog 98 #[.slice A n cap] w fun e w' => e = .returned (.slice A n n) ∧ w' = w := by
  have h1 : (n : Int) ≤ (cap : Int) := by omega
  have h2 : (0 : Int) ≤ (n : Int) := by omega
  have h3 : (n : Int) ≤ 9223372036854775807 := by omega
  go_enter Tryz.func98, Tryz.ntmps98
  go_wp2
  all_goals go_ret
  all_goals first | exact ⟨rfl, rfl⟩ | exact ⟨by simp, rfl⟩
end Go.Proofs.YtacaknkfddlklaaGreatDoor
namespace Go.Proofs.YtacaknkfddlklaaGreatDoor
open Go.RowKit Go.IntWalk

theorem size_draw_alloc (w : World) (o : Obj) : (w.alloc o).drew.heap.size = w.heap.size + 1 := World.size_alloc w o
theorem cell_new (w : World) (u : Value) : (w.alloc (.cells #[u] 5)).cell? ⟨w.heap.size, 0, none⟩ = some u := World.news_of_block (cs := #[u]) (t := 5) (fr := (0, 0)) (Go.heap_alloc_new w _) 0 u rfl
/-- append(b, x) in a region that draws its order -/
theorem stB_app {ops : Array Oper} {o : Oper} {a : Act} {Q : Exit → Act → World → Prop} {K : Act → World → Prop} {E : Prop} {w w0 : World} {ok : Nat → Prop} {l : List UInt8} (v : Value) (x : UInt8)
    (s y : Operand) (hgd : o.guard = none) (ho : o.op = .call { callee := .builtin .append, args := #[s, y], argTypes := #[40, 40] })
    (hs : a.eval s = v) (g c : Nat) (hx : a.eval y = .slice (some ⟨g, 0, none⟩) 1 c) (hcell : w.cell? ⟨g, 0, none⟩ = some (.int .u8 (x.toNat : Int)))
    (HO : OwnB ok w v l) (HF : Fr ok w0 w) (hl : l.length + 1 ≤ 140737488355328) (hnew : ∀ k, w.heap.size ≤ k → ok k)
    (h : ∀ v1 w1, OwnB ok w1 v1 (l ++ [x]) → Fr ok w0 w1 → K (a.put o.dst v1) w1) :
    if Region.wanted o (yielded ops a.tmps) = true then Oper.wp Tryz.prog o a w K Q else E := by
  refine step_append_gen hgd s y 40 ho Tryz.infoU8 Tryz.underlying40 rfl (by omega) (by omega) hs HO (some ⟨g, 0, none⟩) 1 c (bvals [x]) hx rfl (fun _ => ⟨g, 0, rfl, fun j u hj => ?_⟩) (bvals_one _) (by omega) hnew ?_
  · match j, hj with
    | 0, hj => simp [bvals] at hj; subst hj; exact hcell
  · intro v1 w1 h1 h2
    refine h v1 w1 ?_ (HF.grown h2 HO.blk)
    unfold OwnB
    rw [bvals_append, List.length_append]
    exact h1
def PutPost (ok : Nat → Prop) (w : World) (l : List UInt8) (e : Ending) (w' : World) : Prop := ∃ r, e = .returned r ∧ OwnB ok w' r l ∧ Fr ok w w'
set_option maxRecDepth 20000 in
set_option maxHeartbeats 1000000 in
theorem put_unit (X : V) (hX : Rightish X) (h0 : X.kind = 0) (l : List UInt8) (v b : Value) (ok okv : Nat → Prop) (w : World) (hv : RdV okv w v X) (hb : OwnB ok w b l) (hnew : ∀ k, w.heap.size ≤ k → ok k) (hl : l.length ≤ 1000000) :
    Calls Tryz.prog 99 #[b, v] w (PutPost ok w (l ++ encS X)) := by
  obtain ⟨A, c, B, d, rfl, _⟩ := hv.form
  have he : encS X = [0] := by
    cases X with
    | mk k n s l ks => simp only [V.kind] at h0; subst h0; rw [encS]; simp
  rw [he]
  have g1 : (X.kind == 1) = false := by simp [h0]
  have g2 : (X.kind == 2) = false := by simp [h0]
  have g3 : (X.kind == 3) = false := by simp [h0]
  have g4 : (X.kind == 4) = false := by simp [h0]
  have g5 : (X.kind == 5) = false := by simp [h0]
  have HO := Lib.hid (OwnR.alloc hb (.cells #[.int .i64 X.kind, .int .i64 X.num, .string ⟨X.str.toArray⟩, .slice A X.parts.length c, .slice B X.keys.length d] 25) : OwnB ok _ b l)
  have HN := Lib.hid hnew
  have Hl := Lib.hid hl
  clear hv hX h0 he hb hnew hl
  go_enter Tryz.func99, Tryz.ntmps99
  go_wp2_with (first | (at_builtin; refine wpB_append _ [0] (.tmp 87) (.tmp 88) rfl rfl _ rfl 1 1 rfl (by rw [World.size_alloc]; rfl) rfl HO.out ((Fr.refl ok w).alloc _) (by have := Hl.out; omega) (fun k h => HN.out k (by simp at h; omega)) ?_; intro v2 w2 h1 h2) | fail)
  have H1 := Lib.hid h1
  have H2 := Lib.hid h2
  clear h1 h2
  go_wp2_with fail
  go_ret
  exact ⟨_, rfl, H1.out, H2.out⟩
set_option maxRecDepth 20000 in
set_option maxHeartbeats 1000000 in
theorem put_bool0 (A B : Option Addr) (c d : Nat) (l : List UInt8) (b : Value) (ok : Nat → Prop) (w : World) (hb : OwnB ok w b l) (hnew : ∀ k, w.heap.size ≤ k → ok k) (hl : l.length ≤ 1000000) :
    Calls Tryz.prog 99 #[b, .agg #[.int .i64 1, .int .i64 0, .string ⟨#[]⟩, .slice A 0 c, .slice B 0 d]] w (PutPost ok w (l ++ [1])) := by
  have HO := Lib.hid (OwnR.alloc hb (.cells #[.int .i64 1, .int .i64 0, .string ⟨#[]⟩, .slice A 0 c, .slice B 0 d] 25) : OwnB ok _ b l)
  have HN := Lib.hid hnew
  have Hl := Lib.hid hl
  clear hb hnew hl
  go_enter Tryz.func99, Tryz.ntmps99
  go_wp2_with (first | (at_builtin; refine wpB_append _ [1] (.tmp 13) (.tmp 18) rfl rfl _ rfl 1 1 rfl (by rw [World.size_alloc]; rfl) rfl HO.out ((Fr.refl ok w).alloc _) (by have := Hl.out; omega) (fun k h => HN.out k (by simp at h; omega)) ?_; intro v2 w2 h1 h2) | fail)
  have H1 := Lib.hid h1
  have H2 := Lib.hid h2
  clear h1 h2
  go_wp2_with fail
  go_ret
  exact ⟨_, rfl, H1.out, H2.out⟩
set_option maxRecDepth 20000 in
set_option maxHeartbeats 1000000 in
theorem put_bool1 (A B : Option Addr) (c d : Nat) (l : List UInt8) (b : Value) (ok : Nat → Prop) (w : World) (hb : OwnB ok w b l) (hnew : ∀ k, w.heap.size ≤ k → ok k) (hl : l.length ≤ 1000000) :
    Calls Tryz.prog 99 #[b, .agg #[.int .i64 1, .int .i64 1, .string ⟨#[]⟩, .slice A 0 c, .slice B 0 d]] w (PutPost ok w (l ++ [2])) := by
  have HO := Lib.hid (OwnR.alloc hb (.cells #[.int .i64 1, .int .i64 1, .string ⟨#[]⟩, .slice A 0 c, .slice B 0 d] 25) : OwnB ok _ b l)
  have HN := Lib.hid hnew
  have Hl := Lib.hid hl
  clear hb hnew hl
  go_enter Tryz.func99, Tryz.ntmps99
  go_wp2_with (first | (at_builtin; refine wpB_append _ [2] (.tmp 13) (.tmp 18) rfl rfl _ rfl 1 1 rfl (by rw [World.size_alloc]; rfl) rfl HO.out ((Fr.refl ok w).alloc _) (by have := Hl.out; omega) (fun k h => HN.out k (by simp at h; omega)) ?_; intro v2 w2 h1 h2) | fail)
  have H1 := Lib.hid h1
  have H2 := Lib.hid h2
  clear h1 h2
  go_wp2_with fail
  go_ret
  exact ⟨_, rfl, H1.out, H2.out⟩
/-- ok, but for one's own box -/
def okb (ok : Nat → Prop) (b : Nat) (k : Nat) : Prop := ok k ∧ k ≠ b
theorem okb_own {ok : Nat → Prop} {w : World} {v : Value} {l : List UInt8} (h : OwnB ok w v l) : OwnB (okb ok w.heap.size) w v l := OwnR.mono h fun k hk h => ⟨h, by omega⟩
theorem box_cell {ok : Nat → Prop} {w w2 : World} {c0 c1 c2 c3 c4 : Value} {e : TypeId} (h : Fr (okb ok w.heap.size) (w.alloc (.cells #[c0, c1, c2, c3, c4] e)) w2) :
    w2.cell? ⟨w.heap.size, 0, none⟩ = some c0 ∧ w2.cell? ⟨w.heap.size, 1, none⟩ = some c1 ∧ w2.cell? ⟨w.heap.size, 2, none⟩ = some c2 ∧ w2.cell? ⟨w.heap.size, 3, none⟩ = some c3 ∧ w2.cell? ⟨w.heap.size, 4, none⟩ = some c4 :=
  ⟨h.cell (World.cell?_alloc_at _ _ _ _ rfl) (fun h => h.2 rfl), h.cell (World.cell?_alloc_at _ _ _ _ rfl) (fun h => h.2 rfl), h.cell (World.cell?_alloc_at _ _ _ _ rfl) (fun h => h.2 rfl), h.cell (World.cell?_alloc_at _ _ _ _ rfl) (fun h => h.2 rfl), h.cell (World.cell?_alloc_at _ _ _ _ rfl) (fun h => h.2 rfl)⟩
theorem okb_fr {ok : Nat → Prop} {w w2 : World} {o : Obj} (h : Fr (okb ok w.heap.size) (w.alloc o) w2) : Fr ok w w2 := ((Fr.refl ok w).alloc o).trans (h.mono fun _ _ h => h.1)
theorem put_fin {ok : Nat → Prop} {w w2 w3 : World} {o : Obj} {v : Value} {l : List UInt8} (h : Fr (okb ok w.heap.size) (w.alloc o) w2) (hn : ∀ k, w.heap.size ≤ k → ok k) (h3 : OwnB (newB w2.heap.size) w3 v l) (h4 : Below w2.heap.size w2 w3) : PutPost ok w l (.returned v) w3 :=
  ⟨v, rfl, OwnR.mono h3 fun k _ hk => hn k (Nat.le_trans (okb_fr h).size hk), (okb_fr h).below h4⟩
set_option maxRecDepth 20000 in
set_option maxHeartbeats 1000000 in
theorem put_int (n : Int) (hn : i64ok n) (A B : Option Addr) (c d : Nat) (l : List UInt8) (b : Value) (ok : Nat → Prop) (w : World) (hb : OwnB ok w b l) (hnew : ∀ k, w.heap.size ≤ k → ok k) (hl : l.length ≤ 100000) :
    Calls Tryz.prog 99 #[b, .agg #[.int .i64 2, .int .i64 n, .string ⟨#[]⟩, .slice A 0 c, .slice B 0 d]] w (PutPost ok w (l ++ 3 :: uvar (zig n))) := by
  have HO := Lib.hid (OwnR.drew (OwnR.alloc (okb_own hb) (.cells #[.int .i64 2, .int .i64 n, .string ⟨#[]⟩, .slice A 0 c, .slice B 0 d] 25)) : OwnB (okb ok w.heap.size) _ b l)
  have HN := Lib.hid hnew
  have Hl := Lib.hid hl
  have Hn := Lib.hid hn
  clear hb hnew hl hn
  go_enter Tryz.func99, Tryz.ntmps99
  go_wp2_with fail
  go_region_law (first
    | (refine stB_app _ 3 (.tmp 22) (.tmp 23) rfl rfl rfl (w.heap.size + 1) 1 rfl (by rw [← size_draw_alloc w (.cells #[.int .i64 2, .int .i64 n, .string ⟨#[]⟩, .slice A 0 c, .slice B 0 d] 25)]; exact cell_new _ _) (OwnR.alloc HO.out _) ((((Fr.refl (okb ok w.heap.size) (w.alloc (.cells #[.int .i64 2, .int .i64 n, .string ⟨#[]⟩, .slice A 0 c, .slice B 0 d] 25)))).drew).alloc _) (by have := Hl.out; omega) (fun k h => ⟨HN.out k (by simp at h; omega), by simp at h; omega⟩) ?_
       intro v2 w2 h1 h2
       have cc := (box_cell h2).2.1
       have H2 := Lib.hid h2
       have H1 := Lib.hid (RdBy.own h1)
       clear h1 h2)
    | (go_simp
       go_at_call 123
       refine (num_PutInt n Hn.out (l ++ [3]) (by have := Hl.out; simp; omega) _ _ H1.out).mono ?_
       rintro e w3 ⟨v3, rfl, h3, h4⟩
       have H3 := Lib.hid (put_fin H2.out HN.out h3 h4)
       clear h3 h4
       go_simp))
  all_goals go_wp2_with fail
  all_goals go_ret
  all_goals exact (List.append_assoc l [3] _ ▸ H3.out : PutPost ok w (l ++ ([3] ++ uvar (zig n))) _ _)
set_option maxRecDepth 20000 in
set_option maxHeartbeats 1000000 in
theorem put_text (s : List UInt8) (hs : s.length ≤ 100000) (A B : Option Addr) (c d : Nat) (l : List UInt8) (b : Value) (ok : Nat → Prop) (w : World) (hb : OwnB ok w b l) (hnew : ∀ k, w.heap.size ≤ k → ok k) (hl : l.length ≤ 900000) :
    Calls Tryz.prog 99 #[b, .agg #[.int .i64 3, .int .i64 0, .string ⟨s.toArray⟩, .slice A 0 c, .slice B 0 d]] w (PutPost ok w (l ++ 4 :: (uvar s.length ++ s))) := by
  have HO := Lib.hid (OwnR.drew (OwnR.alloc (okb_own hb) (.cells #[.int .i64 3, .int .i64 0, .string ⟨s.toArray⟩, .slice A 0 c, .slice B 0 d] 25)) : OwnB (okb ok w.heap.size) _ b l)
  have HN := Lib.hid hnew
  have Hl := Lib.hid hl
  have Hs := Lib.hid hs
  clear hb hnew hl hs
  go_enter Tryz.func99, Tryz.ntmps99
  go_wp2_with fail
  go_region_law (first
    | (refine stB_app _ 4 (.tmp 30) (.tmp 31) rfl rfl rfl (w.heap.size + 1) 1 rfl (by rw [← size_draw_alloc w (.cells #[.int .i64 3, .int .i64 0, .string ⟨s.toArray⟩, .slice A 0 c, .slice B 0 d] 25)]; exact cell_new _ _) (OwnR.alloc HO.out _) ((((Fr.refl (okb ok w.heap.size) (w.alloc (.cells #[.int .i64 3, .int .i64 0, .string ⟨s.toArray⟩, .slice A 0 c, .slice B 0 d] 25)))).drew).alloc _) (by have := Hl.out; omega) (fun k h => ⟨HN.out k (by simp at h; omega), by simp at h; omega⟩) ?_
       intro v2 w2 h1 h2
       have cc := (box_cell h2).2.2.1
       have H2 := Lib.hid h2
       have H1 := Lib.hid (RdBy.own h1)
       clear h1 h2)
    | (go_simp
       go_at_call 124
       refine (num_PutText s (by have := Hs.out; omega) (l ++ [4]) (by have := Hl.out; simp; omega) _ _ H1.out).mono ?_
       rintro e w3 ⟨v3, rfl, h3, h4⟩
       have H3 := Lib.hid (put_fin H2.out HN.out h3 h4)
       clear h3 h4
       go_simp))
  all_goals go_wp2_with fail
  all_goals go_ret
  all_goals exact (List.append_assoc l [4] _ ▸ H3.out : PutPost ok w (l ++ ([4] ++ (uvar s.length ++ s))) _ _)
end Go.Proofs.YtacaknkfddlklaaGreatDoor
