/- How long a tree's one form may be: plain bounds. How long a statement's, a Block's, a program's one form may be: plain bounds. -/
import Derived.Test.YthlfeiiolafonaaDoorPrintSpec
set_option linter.unusedVariables false
set_option linter.unusedSimpArgs false
namespace Go.Proofs.YthlfeiiolafonaaDoor
open Go.RowKit

theorem quoteL_len (l : List UInt8) : (quoteL l).length ≤ 4 * l.length := by
  induction l with
  | nil => simp [quoteL]
  | cons c l ih =>
    have h1 : (quoteB c).length ≤ 4 := by unfold quoteB; split; simp; split <;> simp
    have h2 : quoteL (c :: l) = quoteB c ++ quoteL l := by simp [quoteL]
    rw [h2, List.length_append, List.length_cons]
    omega
theorem quoteS_len (l : List UInt8) : (quoteS l).length ≤ 4 * l.length + 2 := by
  have := quoteL_len l
  simp [quoteS]
  omega
theorem vsize_pos (v : V) : 1 ≤ vsize v := by cases v; simp [vsize]
theorem nsize_pos (n : N) : 1 ≤ nsize n := by
  cases n with
  | mk k t x f l a =>
    have := vsize_pos x
    simp only [nsize]
    omega
theorem toDigits_len : ∀ (k n : Nat), n < 10 ^ (k + 1) → (Nat.toDigits 10 n).length ≤ k + 1 := by
  intro k
  induction k with
  | zero =>
    intro n h
    rw [Nat.toDigits_of_lt_base (by omega)]
    simp
  | succ k ih =>
    intro n h
    by_cases hn : n < 10
    · rw [Nat.toDigits_of_lt_base hn]; simp
    · rw [Nat.toDigits_of_base_le (by omega) (by omega), List.length_append]
      have := ih (n / 10) (by rw [Nat.pow_succ] at h; omega)
      simp
      omega
/-- the texts of a tree are no longer than so -/
def NBound : N → Prop
  | .mk _ t x _ _ _ => t.length ≤ 16777216 ∧ x.str.length ≤ 16777216 ∧ i64ok x.num
mutual
def NBounds : N → Prop
  | .mk k t x f l a => NBound (.mk k t x f l a) ∧ NBoundL l
def NBoundL : List N → Prop
  | [] => True
  | x :: l => NBounds x ∧ NBoundL l
end
mutual
theorem RdN.bounds {ok : Nat → Prop} {w : World} : ∀ {v : Value} {n : N}, RdN ok w v n → NBounds n
  | v, .mk k t x f l a, h => by
    unfold RdN at h
    obtain ⟨h1, h2, h3, c0, c1, c2, c3, c4, lv, h4, h5, h6, h7⟩ := h
    have h8 := h5.open
    unfold NBounds
    exact ⟨⟨h3, h8.2.2.1, h8.2.1⟩, RdNs.bounds h7⟩
theorem RdNs.bounds {ok : Nat → Prop} {w : World} : ∀ {lv : Value} {i : Nat} {l : List N}, RdNs ok w lv i l → NBoundL l
  | lv, i, [], h => by unfold NBoundL; trivial
  | lv, i, x :: l, h => by
    unfold RdNs at h
    unfold NBoundL
    obtain ⟨⟨g, o, cs, h1, h2, h3, h4⟩, h5⟩ := h
    exact ⟨RdN.bounds h4, RdNs.bounds h5⟩
end
theorem litS_len {v : V} (h1 : v.str.length ≤ 16777216) (h2 : i64ok v.num) : (litS v).length ≤ 67108870 := by
  have h3 := quoteS_len v.str
  unfold litS
  split
  · simp
  · split
    · split <;> simp
    · split
      · unfold i64ok at h2
        have := toDigits_len 18 v.num.toNat (by rw [show (10 : Nat) ^ (18 + 1) = 10000000000000000000 by decide]; omega)
        simp only [decS, List.length_map]
        omega
      · omega
theorem inBr_len (b : Bool) (s : List UInt8) : (inBr b s).length ≤ s.length + 2 := by unfold inBr; split <;> simp
theorem keyT_len (t : List UInt8) : (keyT t).length ≤ 4 * t.length + 2 := by
  unfold keyT
  split
  · omega
  · exact quoteS_len t
mutual
theorem exprT_len (C : Nat) (hC : 134217728 ≤ C) : ∀ (n : N), NBounds n → (exprT n).length + 10 ≤ nsize n * C
  | .mk k t x f l a, h => by
    unfold NBounds at h
    obtain ⟨⟨h1, h2, h3⟩, h4⟩ := h
    have e1 : C ≤ vsize x * C := Nat.le_mul_of_pos_left C (vsize_pos x)
    have e2 := litS_len h2 h3
    have e3 := rowT_len C hC 0 l h4
    have e4 := fun i => partT_len C hC k t i 0 l h4
    have e5 := keyT_len t
    have e6 := partT2_len C hC k t l h4
    have e7 := kidT_len C hC 1 l h4
    have e8 := part_kid_len C hC k t l h4
    have e9 := e4 0
    rw [exprT]
    rw [nsize, Nat.add_mul]
    repeat' split
    all_goals try simp only [List.length_append, List.length_cons, List.length_nil]
    all_goals omega
theorem rowT_len (C : Nat) (hC : 134217728 ≤ C) : ∀ (i : Nat) (l : List N), NBoundL l → (rowT i l).length ≤ nsizes l * C
  | i, [], h => by simp [rowT]
  | i, x :: l, h => by
    unfold NBoundL at h
    have e1 := exprT_len C hC x h.1
    have e2 := rowT_len C hC (i + 1) l h.2
    rw [rowT]
    rw [nsizes, Nat.add_mul]
    simp only [List.length_append]
    split <;> simp <;> omega
theorem partT_len (C : Nat) (hC : 134217728 ≤ C) : ∀ (k : Int) (t : List UInt8) (i j : Nat) (l : List N), NBoundL l → (partT k t i j l).length ≤ nsizes l * C
  | k, t, i, j, [], h => by simp [partT]
  | k, t, i, 0, x :: l, h => by
    unfold NBoundL at h
    have e1 := exprT_len C hC x h.1
    have e2 := inBr_len (wrapK k t (bindingS x) i) (exprT x)
    rw [partT]
    rw [nsizes, Nat.add_mul]
    omega
  | k, t, i, j + 1, x :: l, h => by
    unfold NBoundL at h
    have e2 := partT_len C hC k t i j l h.2
    rw [partT]
    rw [nsizes, Nat.add_mul]
    omega
theorem kidT_len (C : Nat) (hC : 134217728 ≤ C) : ∀ (j : Nat) (l : List N), NBoundL l → (kidT j l).length ≤ nsizes l * C
  | j, [], h => by simp [kidT]
  | 0, x :: l, h => by
    unfold NBoundL at h
    have e1 := exprT_len C hC x h.1
    rw [kidT]
    rw [nsizes, Nat.add_mul]
    omega
  | j + 1, x :: l, h => by
    unfold NBoundL at h
    have e2 := kidT_len C hC j l h.2
    rw [kidT]
    rw [nsizes, Nat.add_mul]
    omega
theorem partT2_len (C : Nat) (hC : 134217728 ≤ C) : ∀ (k : Int) (t : List UInt8) (l : List N), NBoundL l → (partT k t 0 0 l).length + (partT k t 1 1 l).length ≤ nsizes l * C
  | k, t, [], h => by simp [partT]
  | k, t, x :: l, h => by
    unfold NBoundL at h
    have e1 := exprT_len C hC x h.1
    have e2 := inBr_len (wrapK k t (bindingS x) 0) (exprT x)
    have e3 := partT_len C hC k t 1 0 l h.2
    rw [partT, partT]
    rw [nsizes, Nat.add_mul]
    omega
theorem part_kid_len (C : Nat) (hC : 134217728 ≤ C) : ∀ (k : Int) (t : List UInt8) (l : List N), NBoundL l → (partT k t 0 0 l).length + (kidT 1 l).length ≤ nsizes l * C
  | k, t, [], h => by simp [partT, kidT]
  | k, t, x :: l, h => by
    unfold NBoundL at h
    have e1 := exprT_len C hC x h.1
    have e2 := inBr_len (wrapK k t (bindingS x) 0) (exprT x)
    have e3 := kidT_len C hC 0 l h.2
    rw [partT, kidT]
    rw [nsizes, Nat.add_mul]
    omega
end
end Go.Proofs.YthlfeiiolafonaaDoor
namespace Go.Proofs.YthlfeiiolafonaaDoor
open Go.RowKit

theorem nsizes_app : ∀ (a b : List N), nsizes (a ++ b) = nsizes a + nsizes b
  | [], b => by simp [nsizes]
  | x :: a, b => by rw [List.cons_append, nsizes, nsizes, nsizes_app a b]; omega
theorem NBoundL.append : ∀ {a b : List N}, NBoundL (a ++ b) → NBoundL a ∧ NBoundL b
  | [], b, h => ⟨by unfold NBoundL; trivial, h⟩
  | x :: a, b, h => by
    rw [List.cons_append] at h
    rw [NBoundL] at h
    obtain ⟨h1, h2⟩ := NBoundL.append h.2
    refine ⟨?_, h2⟩
    rw [NBoundL]
    exact ⟨h.1, h1⟩
theorem behT_len (C : Nat) (hC : 134217728 ≤ C) (s : List UInt8) : ∀ (l : List N), NBoundL l → (behT s l).length ≤ s.length + nsizes l * C
  | [], h => by simp [behT]
  | x :: l, h => by
    unfold NBoundL at h
    have e1 := exprT_len C hC x h.1
    rw [behT, nsizes, Nat.add_mul, List.length_append]
    omega
mutual
theorem stmtT_len (C D : Nat) (hC : 134217728 + 2 * D ≤ C) : ∀ (w : Nat) (n : N), NBounds n → w + nsize n ≤ D → (stmtT w n).length + 10 + D ≤ nsize n * C
  | w, .mk k t x f l a, h, hw => by
    unfold NBounds at h
    obtain ⟨⟨h1, h2, h3⟩, h4⟩ := h
    rw [nsize] at hw
    have e0 := vsize_pos x
    have e1 : C ≤ vsize x * C := Nat.le_mul_of_pos_left C e0
    have e2 := fun s => behT_len C (by omega) s l h4
    have e3 := iffT_len C D hC w l h4 (by omega)
    have e4 := whiT_len C D hC w l h4 (by omega)
    have b1 := e2 [32, 61, 32]
    have b2 := e2 [32]
    have b3 := e2 []
    simp only [List.length_cons, List.length_nil] at b1 b2 b3
    rw [stmtT, nsize, Nat.add_mul]
    repeat' split
    all_goals try simp only [List.length_append, List.length_cons, List.length_nil]
    all_goals omega
theorem blockT_len (C D : Nat) (hC : 134217728 + 2 * D ≤ C) : ∀ (w : Nat) (n : N), NBounds n → w + nsize n ≤ D → (blockT w n).length + 10 + D ≤ nsize n * C
  | w, .mk k t x f l a, h, hw => by
    unfold NBounds at h
    rw [nsize] at hw
    have e0 := vsize_pos x
    have e1 : C ≤ vsize x * C := Nat.le_mul_of_pos_left C e0
    have e2 := stmtsT_len C D hC (w + 1) l h.2 (by omega)
    rw [blockT, nsize, Nat.add_mul]
    simp only [List.length_append, List.length_cons, List.length_nil, tabsT, List.length_replicate]
    omega
theorem stmtsT_len (C D : Nat) (hC : 134217728 + 2 * D ≤ C) : ∀ (w : Nat) (l : List N), NBoundL l → w + nsizes l ≤ D → (stmtsT w l).length ≤ nsizes l * C
  | w, [], h, hw => by simp [stmtsT]
  | w, x :: l, h, hw => by
    unfold NBoundL at h
    rw [nsizes] at hw
    have e1 := stmtT_len C D hC w x h.1 (by omega)
    have e2 := stmtsT_len C D hC w l h.2 (by omega)
    rw [stmtsT, nsizes, Nat.add_mul]
    simp only [List.length_append, List.length_cons, List.length_nil, tabsT, List.length_replicate]
    omega
theorem elseT_len (C D : Nat) (hC : 134217728 + 2 * D ≤ C) : ∀ (w : Nat) (l : List N), NBoundL l → w + nsizes l ≤ D → (elseT w 0 l).length ≤ nsizes l * C
  | w, [], h, hw => by simp [elseT]
  | w, x :: l, h, hw => by
    unfold NBoundL at h
    rw [nsizes] at hw
    have e1 := stmtT_len C D hC w x h.1 (by omega)
    have e2 := blockT_len C D hC w x h.1 (by omega)
    rw [elseT, nsizes, Nat.add_mul]
    split <;> simp only [List.length_append, List.length_cons, List.length_nil] <;> omega
theorem whiT_len (C D : Nat) (hC : 134217728 + 2 * D ≤ C) : ∀ (w : Nat) (l : List N), NBoundL l → w + nsizes l ≤ D → (kidT 0 l).length + (blkT w 1 l).length ≤ nsizes l * C
  | w, [], h, hw => by simp [kidT, blkT]
  | w, [x], h, hw => by
    unfold NBoundL at h
    have e1 := exprT_len C (by omega) x h.1
    rw [kidT, blkT, blkT, nsizes, Nat.add_mul]
    simp
    omega
  | w, x :: y :: l, h, hw => by
    unfold NBoundL NBoundL at h
    rw [nsizes, nsizes] at hw
    have e1 := exprT_len C (by omega) x h.1
    have e2 := blockT_len C D hC w y h.2.1 (by omega)
    rw [kidT, blkT, blkT, nsizes, nsizes, Nat.add_mul, Nat.add_mul]
    omega
theorem iffT_len (C D : Nat) (hC : 134217728 + 2 * D ≤ C) : ∀ (w : Nat) (l : List N), NBoundL l → w + nsizes l ≤ D → (kidT 0 l).length + (blkT w 1 l).length + (elseT w 2 l).length ≤ nsizes l * C
  | w, [], h, hw => by simp [kidT, blkT, elseT]
  | w, [x], h, hw => by
    unfold NBoundL at h
    have e1 := exprT_len C (by omega) x h.1
    rw [kidT, blkT, blkT, elseT, elseT, nsizes, Nat.add_mul]
    simp
    omega
  | w, x :: y :: l, h, hw => by
    unfold NBoundL NBoundL at h
    rw [nsizes, nsizes] at hw
    have e1 := exprT_len C (by omega) x h.1
    have e2 := blockT_len C D hC w y h.2.1 (by omega)
    have e3 := elseT_len C D hC w l h.2.2 (by omega)
    rw [kidT, blkT, blkT, elseT, elseT, nsizes, nsizes, Nat.add_mul, Nat.add_mul]
    omega
end
theorem parsT_len (C : Nat) (hC : 134217728 ≤ C) : ∀ (i : Nat) (l : List N), NBoundL l → (parsT i l).length ≤ nsizes l * C
  | i, [], h => by simp [parsT]
  | i, .mk k t x f l' a :: l, h => by
    unfold NBoundL at h
    have e0 : t.length ≤ 16777216 := by
      have := h.1
      unfold NBounds at this
      exact this.1.1
    have e1 : C ≤ nsize (.mk k t x f l' a) * C := Nat.le_mul_of_pos_left C (nsize_pos _)
    have e2 := parsT_len C hC (i + 1) l h.2
    rw [parsT, nsizes, Nat.add_mul]
    simp only [List.length_append, N.text]
    split <;> simp <;> omega
theorem blkT_last (w : Nat) (b : N) : ∀ (l : List N), blkT w l.length (l ++ [b]) = blockT w b
  | [] => by rw [List.length_nil, List.nil_append, blkT]
  | x :: l => by rw [List.length_cons, List.cons_append, blkT, blkT_last w b l]
theorem fnT_len (C D : Nat) (hC : 134217728 + 2 * D ≤ C) (n : N) (h : NBounds n) (hw : nsize n ≤ D) : (fnT n).length + 10 ≤ nsize n * C := by
  cases n with
  | mk k t x f l a =>
  unfold NBounds at h
  obtain ⟨⟨h1, h2, h3⟩, h4⟩ := h
  rw [nsize] at hw
  have e0 := vsize_pos x
  have e1 : C ≤ vsize x * C := Nat.le_mul_of_pos_left C e0
  have key : (parsT 0 l.dropLast).length + (blkT 0 (l.length - 1) l).length ≤ nsizes l * C := by
    rcases List.eq_nil_or_concat l with rfl | ⟨l', b, hlb⟩
    · simp [parsT, blkT]
    · rw [List.concat_eq_append] at hlb
      subst hlb
      rw [nsizes_app] at hw ⊢
      obtain ⟨hb1, hb2⟩ := h4.append
      unfold NBoundL at hb2
      simp only [nsizes, Nat.add_zero] at hw ⊢
      have e2 := parsT_len C (by omega) 0 l' hb1
      have e3 := blockT_len C D hC 0 b hb2.1 (by omega)
      rw [List.dropLast_concat, show (l' ++ [b]).length - 1 = l'.length by simp, blkT_last, Nat.add_mul]
      omega
  rw [fnT, nsize, Nat.add_mul]
  simp only [List.length_append, List.length_cons, List.length_nil]
  split <;> simp <;> omega
theorem fnsT_len (C D : Nat) (hC : 134217728 + 2 * D ≤ C) : ∀ (i : Nat) (l : List N), NBoundL l → nsizes l ≤ D → (fnsT i l).length ≤ nsizes l * C
  | i, [], h, hw => by simp [fnsT]
  | i, x :: l, h, hw => by
    unfold NBoundL at h
    rw [nsizes] at hw
    have e1 := fnT_len C D hC x h.1 (by omega)
    have e2 := fnsT_len C D hC (i + 1) l h.2 (by omega)
    rw [fnsT, nsizes, Nat.add_mul]
    simp only [List.length_append]
    split <;> simp <;> omega
theorem expr_room {n : N} (h : NBounds n) (hf : nsize n ≤ 20000) : (exprT n).length ≤ 2690000000000 := by
  have e1 := exprT_len 134217728 (by omega) n h
  have e2 : nsize n * 134217728 ≤ 20000 * 134217728 := Nat.mul_le_mul_right _ hf
  omega
theorem prog_room {n : N} (h : NBounds n) (hf : nsize n ≤ 20000) : (fnsT 0 n.kids).length ≤ 2690000000000 := by
  cases n with
  | mk k t x f l a =>
  unfold NBounds at h
  rw [nsize] at hf
  have e1 := fnsT_len 134257728 20000 (by omega) 0 l h.2 (by omega)
  have e2 : nsizes l * 134257728 ≤ 20000 * 134257728 := Nat.mul_le_mul_right _ (by omega)
  simp only [N.kids]
  omega
end Go.Proofs.YthlfeiiolafonaaDoor
