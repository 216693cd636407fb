/- Contracts of lex.sign and lex.token. -/
import Derived.Test.YtgnoiliaidfepaaDoorLexRow
set_option linter.unusedVariables false
set_option linter.unusedSimpArgs false
namespace Go.Proofs.YtgnoiliaidfepaaDoor
open Go.RowKit Go.IntWalk

theorem sign_index (c : UInt8) : Lib.indexByte [40, 41, 123, 125, 91, 93, 44, 59, 58, 46, 61, 60, 62, 43, 45, 42, 47, 37, 33] c = if singles.contains c then Lib.indexByte singles c else -1 := by
  have key : ∀ n : Fin 256, Lib.indexByte [40, 41, 123, 125, 91, 93, 44, 59, 58, 46, 61, 60, 62, 43, 45, 42, 47, 37, 33] (UInt8.ofNat n.val) = if singles.contains (UInt8.ofNat n.val) then Lib.indexByte singles (UInt8.ofNat n.val) else -1 := by decide +kernel
  have := key ⟨c.toNat, c.toNat_lt⟩
  simpa using this
theorem sign_index_pos (c : UInt8) (h : singles.contains c = true) : 0 ≤ Lib.indexByte singles c := by
  have key : ∀ n : Fin 256, singles.contains (UInt8.ofNat n.val) = true → 0 ≤ Lib.indexByte singles (UInt8.ofNat n.val) := by decide +kernel
  have := key ⟨c.toNat, c.toNat_lt⟩
  simp only [UInt8.ofNat_toNat] at this
  exact this h
theorem sign_call (x : UInt8) (w : World) :
    Calls Tryd.prog 103 #[.string ⟨#[40, 41, 123, 125, 91, 93, 44, 59, 58, 46, 61, 60, 62, 43, 45, 42, 47, 37, 33]⟩, .int .u8 x.toNat] w fun e w' => ∃ z : Int, e = .returned (.int .i64 z) ∧ (singles.contains x = true → 0 ≤ z) ∧ (singles.contains x = false → z = -1) ∧ w' = w := by
  have h := Tryd.strings_IndexByte ⟨#[40, 41, 123, 125, 91, 93, 44, 59, 58, 46, 61, 60, 62, 43, 45, 42, 47, 37, 33]⟩ (x.toNat : Int) w
  have e : ((x.toNat : Int)).toNat.toUInt8 = x := by simp
  rw [e] at h
  refine h.mono fun e w' ⟨h1, h2⟩ => ⟨_, h1, ?_, ?_, h2⟩
  · intro hc
    show 0 ≤ Lib.indexByte [40, 41, 123, 125, 91, 93, 44, 59, 58, 46, 61, 60, 62, 43, 45, 42, 47, 37, 33] x
    rw [sign_index, if_pos hc]; exact sign_index_pos x hc
  · intro hc
    show Lib.indexByte [40, 41, 123, 125, 91, 93, 44, 59, 58, 46, 61, 60, 62, 43, 45, 42, 47, 37, 33] x = -1
    rw [sign_index, if_neg (by rw [hc]; simp)]

theorem lex_sign (s : ByteArray) (w : World) (hs : s.size ≤ 1048576) (h0 : 0 < s.size) :
    Calls Tryd.prog 70 #[.string s] w fun e w' => e = .returned (.string ⟨(signS s.data.toList).toArray⟩) ∧ Below w.heap.size w w' := by
  have hix := sB_lit s 0 0 rfl h0
  have hd := sB_drop s 0 h0
  rw [List.drop_zero] at hd
  have hhd : s.data.toList.headD 0 = sB s 0 := by rw [hd]; rfl
  have hx1 : s.extract 0 1 = ⟨(s.data.toList.take 1).toArray⟩ := by have := ext_at s 0 1 (by omega); simpa using this
  have hsg : Hid (signS s.data.toList = if pairs.contains (s.data.toList.take 2) then s.data.toList.take 2 else if singles.contains (sB s 0) then s.data.toList.take 1 else []) := by
    show _ = _
    rw [signS, hhd]
  generalize sB s 0 = c at hix hhd hd hsg
  have hc : c.toNat < 256 := c.toNat_lt
  clear hd hhd
  by_cases h1 : 1 < s.size
  · have hx2 : s.extract 0 2 = ⟨(s.data.toList.take 2).toArray⟩ := by have := ext_at s 0 2 (by omega); simpa using this
    generalize s.data.toList.take 2 = t2 at hx2 hsg
    by_cases hp : pairs.contains t2 = true
    · have hm : t2 = [61, 61] ∨ t2 = [33, 61] ∨ t2 = [60, 61] ∨ t2 = [62, 61] ∨ t2 = [38, 38] ∨ t2 = [124, 124] := by
        rw [List.contains_iff_mem] at hp
        simpa [pairs] using hp
      have Hsg : Hid (signS s.data.toList = t2) := by show _ = _; rw [hsg.out, if_pos hp]
      clear hp hsg
      rcases hm with rfl | rfl | rfl | rfl | rfl | rfl
      all_goals (
        go_enter Tryd.func70, Tryd.ntmps70
        go_wp2
        go_ret
        rw [Hsg.out]
        exact ⟨rfl, Below.refl _ _⟩)
    · have hm : ¬ (t2 = [61, 61] ∨ t2 = [33, 61] ∨ t2 = [60, 61] ∨ t2 = [62, 61] ∨ t2 = [38, 38] ∨ t2 = [124, 124]) := by
        intro h
        apply hp
        rw [List.contains_iff_mem]
        simpa [pairs] using h
      have Hsg : Hid (signS s.data.toList = if singles.contains c then s.data.toList.take 1 else []) := by show _ = _; rw [hsg.out, if_neg hp]
      simp only [not_or] at hm
      obtain ⟨m1, m2, m3, m4, m5, m6⟩ := hm
      have q1 : (t2 == [61, 61]) = false := by simpa using m1
      have q2 : (t2 == [33, 61]) = false := by simpa using m2
      have q3 : (t2 == [60, 61]) = false := by simpa using m3
      have q4 : (t2 == [62, 61]) = false := by simpa using m4
      have q5 : (t2 == [38, 38]) = false := by simpa using m5
      have q6 : (t2 == [124, 124]) = false := by simpa using m6
      clear m1 m2 m3 m4 m5 m6 hp hsg
      replace Hsg : signS s.data.toList = if singles.contains c then s.data.toList.take 1 else [] := Hsg
      by_cases hsc : singles.contains c = true
      · rw [if_pos hsc] at Hsg
        have Hsc := Lib.hid hsc
        replace Hsg := Lib.hid Hsg
        clear hsc
        go_enter Tryd.func70, Tryd.ntmps70
        go_wp2_with (go_at_call 103; refine (sign_call _ _).mono ?_; rintro e w' ⟨z, rfl, hz1, hz2, rfl⟩; have hz := hz1 Hsc.out; clear hz1 hz2)
        go_ret
        rw [Hsg.out]
        exact ⟨rfl, Below.refl _ _⟩
      · have hsc : singles.contains c = false := by simpa using hsc
        rw [if_neg (by rw [hsc]; simp)] at Hsg
        have Hsc := Lib.hid hsc
        replace Hsg := Lib.hid Hsg
        clear hsc
        go_enter Tryd.func70, Tryd.ntmps70
        go_wp2_with (go_at_call 103; refine (sign_call _ _).mono ?_; rintro e w' ⟨z, rfl, hz1, hz2, rfl⟩; obtain rfl := hz2 Hsc.out; clear hz1 hz2)
        go_ret
        rw [Hsg.out]
        exact ⟨rfl, Below.refl _ _⟩
  · have hp : pairs.contains (s.data.toList.take 2) = false := by
      rw [Bool.eq_false_iff]
      intro h
      rw [List.contains_iff_mem] at h
      have hl : (s.data.toList.take 2).length = 1 := by rw [List.length_take, data_len]; omega
      have : ∀ x ∈ pairs, x.length = 2 := by decide
      have := this _ h
      omega
    have Hsg : signS s.data.toList = if singles.contains c then s.data.toList.take 1 else [] := by rw [hsg.out, if_neg (by rw [hp]; simp)]
    clear hp hsg
    by_cases hsc : singles.contains c = true
    · rw [if_pos hsc] at Hsg
      have Hsc := Lib.hid hsc
      replace Hsg := Lib.hid Hsg
      clear hsc
      go_enter Tryd.func70, Tryd.ntmps70
      go_wp2_with (go_at_call 103; refine (sign_call _ _).mono ?_; rintro e w' ⟨z, rfl, hz1, hz2, rfl⟩; have hz := hz1 Hsc.out; clear hz1 hz2)
      go_ret
      rw [Hsg.out]
      exact ⟨rfl, Below.refl _ _⟩
    · have hsc : singles.contains c = false := by simpa using hsc
      rw [if_neg (by rw [hsc]; simp)] at Hsg
      have Hsc := Lib.hid hsc
      replace Hsg := Lib.hid Hsg
      clear hsc
      go_enter Tryd.func70, Tryd.ntmps70
      go_wp2_with (go_at_call 103; refine (sign_call _ _).mono ?_; rintro e w' ⟨z, rfl, hz1, hz2, rfl⟩; obtain rfl := hz2 Hsc.out; clear hz1 hz2)
      go_ret
      rw [Hsg.out]
      exact ⟨rfl, Below.refl _ _⟩

/-! what the lexer's road reads of package variables -/
def LexW (w : World) : Prop := (∃ m, w.cell? ⟨2, 0, none⟩ = some (.int .i64 m)) ∧ (∃ te pe, w.cell? ⟨5, 0, none⟩ = some (.iface te pe)) ∧ (∃ te pe, w.cell? ⟨6, 0, none⟩ = some (.iface te pe))
theorem LexW.below {w w1 : World} (h : LexW w) (hb : Below w.heap.size w w1) : LexW w1 := by
  obtain ⟨⟨m, h1⟩, ⟨a, b, h2⟩, ⟨c, d, h3⟩⟩ := h
  exact ⟨⟨m, bcell hb h1⟩, ⟨a, b, bcell hb h2⟩, ⟨c, d, bcell hb h3⟩⟩
theorem LexW.alloc {w : World} (h : LexW w) (o : Obj) : LexW (w.alloc o) := h.below ((Below.refl _ _).alloc (Nat.le_refl _) o)
abbrev One (w : World) (A B C D : Value) (w' : World) : Prop :=
  w'.cell? ⟨w.heap.size, 0, none⟩ = some A ∧ w'.cell? ⟨w.heap.size, 1, none⟩ = some B ∧ w'.cell? ⟨w.heap.size, 2, none⟩ = some C ∧ w'.cell? ⟨w.heap.size, 3, none⟩ = some D ∧ (∀ i, w'.frozen? ⟨w.heap.size, i, none⟩ = false) ∧ Below w.heap.size w w'
theorem one_new (w : World) (A B C D : Value) (ty : TypeId) : One w A B C D (w.alloc (.cells #[A, B, C, D] ty)) := by
  have e : ∀ i, (w.alloc (.cells #[A, B, C, D] ty)).cell? ⟨w.heap.size, i, none⟩ = #[A, B, C, D][i]? := fun i => World.cell?_alloc_at _ _ _ _ rfl
  exact ⟨e 0, e 1, e 2, e 3, fun i => World.frozen?_alloc_at _ _ _ _ rfl, (Below.refl _ _).alloc (Nat.le_refl _) _⟩
theorem one_below {w wr w1 : World} {A B C D : Value} (h : One w A B C D wr) (hb : Below wr.heap.size wr w1) : One w A B C D w1 := by
  obtain ⟨a, b, c, d, e, l⟩ := h
  exact ⟨bcell hb a, bcell hb b, bcell hb c, bcell hb d, fun n => (World.frozen?_of_block (a := ⟨w.heap.size, n, none⟩) (hb.block w.heap.size (block_lt_cell a))).trans (e n), bthen l hb⟩

/-! strconv.ParseInt of a word that begins with a digit -/
theorem parseM_ok (l : List UInt8) : ∀ (acc u : Nat), acc ≤ 18446744073709551615 → (Lib.parseUintM 18446744073709551615 acc l = .ok u ↔ l.all digitB = true ∧ l.foldl (fun a c => 10 * a + (c.toNat - 48)) acc ≤ 18446744073709551615 ∧ u = l.foldl (fun a c => 10 * a + (c.toNat - 48)) acc) := by
  induction l with
  | nil =>
    intro acc u ha
    simp only [Lib.parseUintM, List.foldl_nil]
    constructor
    · intro h; injection h with h; exact ⟨rfl, ha, h.symm⟩
    · rintro ⟨-, -, rfl⟩; rfl
  | cons c r ih =>
    intro acc u ha
    have hge := foldl_ge r (10 * acc + (c.toNat - 48))
    have h1 : 1 ≤ 10 ^ r.length := Nat.one_le_pow _ _ (by omega)
    have h2 : (10 * acc + (c.toNat - 48)) * 1 ≤ (10 * acc + (c.toNat - 48)) * 10 ^ r.length := Nat.mul_le_mul_left _ h1
    have hge2 : 10 * acc + (c.toNat - 48) ≤ r.foldl (fun a c => 10 * a + (c.toNat - 48)) (10 * acc + (c.toNat - 48)) := by omega
    clear hge h1 h2
    simp only [Lib.parseUintM, List.foldl_cons, List.all_cons, Bool.and_eq_true]
    by_cases hc : 48 ≤ c.toNat ∧ c.toNat ≤ 57
    · rw [if_pos hc]
      have hd : digitB c = true := by simp [digitB, isDigit]; omega
      by_cases h3 : 1844674407370955162 ≤ acc
      · rw [if_pos h3]
        constructor
        · intro h; cases h
        · rintro ⟨-, h, -⟩; omega
      · rw [if_neg h3]
        by_cases h4 : 18446744073709551615 < acc * 10 + (c.toNat - 48)
        · rw [if_pos h4]
          constructor
          · intro h; cases h
          · rintro ⟨-, h, -⟩; omega
        · rw [if_neg h4, show acc * 10 = 10 * acc by omega, ih _ _ (by omega)]
          constructor
          · rintro ⟨a, b, c⟩; exact ⟨⟨hd, a⟩, b, c⟩
          · rintro ⟨⟨-, a⟩, b, c⟩; exact ⟨a, b, c⟩
    · rw [if_neg hc]
      constructor
      · intro h; cases h
      · rintro ⟨⟨h, -⟩, -, -⟩
        simp [digitB, isDigit] at h
        omega
theorem parse_ok {c : UInt8} {r : List UInt8} (hc : isDigit c.toNat = true) (v : Int) :
    Lib.parseIntB 64 (c :: r) = .ok v ↔ (c :: r).all digitB = true ∧ valS (c :: r) < 9223372036854775808 ∧ v = (valS (c :: r) : Nat) := by
  have hd : 48 ≤ c.toNat ∧ c.toNat ≤ 57 := by simp [isDigit] at hc; omega
  have hv : valS (c :: r) = (c :: r).foldl (fun a c => 10 * a + (c.toNat - 48)) 0 := rfl
  have key := fun u => parseM_ok (c :: r) 0 u (by omega)
  rw [← hv] at key
  have e1 : Lib.parseUintB 64 (c :: r) = Lib.parseUintM 18446744073709551615 0 (c :: r) := by
    rw [Lib.parseUintB, if_neg (by simp)]
  simp only [Lib.parseIntB]
  rw [if_neg (by omega), e1]
  rcases hp : Lib.parseUintM 18446744073709551615 0 (c :: r) with u | _ | _
  ·
    have hk := (key u).1 hp
    simp only []
    by_cases h1 : 2 ^ 63 ≤ u
    · rw [if_pos ⟨by omega, h1⟩]
      constructor
      · intro h; cases h
      · rintro ⟨-, h, -⟩; omega
    · rw [if_neg (fun h => h1 h.2), if_neg (fun h => by omega), if_neg (by omega)]
      constructor
      · intro h; injection h with h; exact ⟨hk.1, by omega, by rw [← h, hk.2.2]⟩
      · rintro ⟨-, -, h⟩; rw [h, hk.2.2]
  ·
    simp only []
    constructor
    · intro h; cases h
    · rintro ⟨h1, h2, -⟩
      have := (key (valS (c :: r))).2 ⟨h1, by omega, rfl⟩
      rw [hp] at this; cases this
  ·
    simp only []
    constructor
    · intro h; cases h
    · rintro ⟨h1, h2, -⟩
      have := (key (valS (c :: r))).2 ⟨h1, by omega, rfl⟩
      rw [hp] at this; cases this
theorem parse_call (t : ByteArray) (c : UInt8) (r : List UInt8) (ht : t.data.toList = c :: r) (hc : isDigit c.toNat = true) (hs : t.size ≤ 1048576) (W : World) (hW : LexW W) :
    Calls Tryd.prog 68 #[.string t, .int .i64 10, .int .i64 64] W fun e w' => ∃ v er, e = .returned (.tuple #[.int .i64 v, er]) ∧ Below W.heap.size W w' ∧
      (((c :: r).all digitB = true ∧ valS (c :: r) < 9223372036854775808) → er = .nilIface ∧ v = (valS (c :: r) : Nat)) ∧ (¬ ((c :: r).all digitB = true ∧ valS (c :: r) < 9223372036854775808) → ∃ te pe, er = .iface te pe) := by
  obtain ⟨_, ⟨a, b, h2⟩, ⟨c', d, h3⟩⟩ := hW
  rcases hp : Lib.parseIntB 64 t.data.toList with v | _ | _
  ·
    refine (Tryd.strconv_ParseInt_10_at64_ok t (by omega) v hp W).mono fun e w' ⟨h1, h4⟩ => ⟨v, .nilIface, h1, ?_, ?_, ?_⟩
    · rcases h4 with rfl | ⟨x, rfl⟩
      · exact Below.refl _ _
      · exact ⟨rfl, rfl, rfl, by rw [Lib.bytesWorld_size]; omega, fun i hi => Lib.bytesWorld_at_old _ _ x i hi⟩
    · intro _
      rw [ht] at hp
      exact ⟨rfl, ((parse_ok hc v).1 hp).2.2⟩
    · intro hn
      rw [ht] at hp
      have := (parse_ok hc v).1 hp
      exact absurd ⟨this.1, this.2.1⟩ hn
  ·
    refine (Tryd.parseInt64_none t (by omega) (fun v => by rw [hp]; simp) (by rw [hp]; simp) _ W h2 (.inr ⟨a, b, rfl⟩)).mono fun e w' ⟨N, h1, _, _, h5⟩ => ⟨_, _, h1, h5, ?_, fun _ => ⟨_, _, rfl⟩⟩
    intro hg
    rw [ht] at hp
    have := (parse_ok hc (valS (c :: r) : Nat)).2 ⟨hg.1, hg.2, rfl⟩
    rw [hp] at this; cases this
  ·
    refine (Tryd.strconv_ParseInt_10_at64_range t (by omega) hp _ W h3 (.inr ⟨c', d, rfl⟩)).mono fun e w' ⟨N, h1, _, _, h5⟩ => ⟨_, _, h1, h5, ?_, fun _ => ⟨_, _, rfl⟩⟩
    intro hg
    rw [ht] at hp
    have := (parse_ok hc (valS (c :: r) : Nat)).2 ⟨hg.1, hg.2, rfl⟩
    rw [hp] at this; cases this
end Go.Proofs.YtgnoiliaidfepaaDoor
