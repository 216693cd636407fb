/- Contracts of the reference's token and All. -/
import Derived.Test.YtgnoiliaidfepaaDoorLexRef3
set_option linter.unusedVariables false
set_option linter.unusedSimpArgs false
namespace Go.Proofs.YtgnoiliaidfepaaDoor
open Go.RowKit Go.IntWalk

abbrev tokV (k : Nat) (t : List UInt8) (n p : Nat) : Value := .agg #[.int .i64 (k : Int), .string ⟨t.toArray⟩, .int .i64 (n : Int), .int .i64 (p : Int)]
def tokT (p : Nat) (o : Except Nat (Nat × List UInt8 × Nat × Nat)) : Ending := match o with
  | .ok (k, t, n, m) => .returned (.tuple #[tokV k t n p, .int .i64 ((p + m : Nat) : Int), .int .i64 0])
  | .error e => .returned (.tuple #[tokV 0 [] 0 0, .int .i64 0, .int .i64 (e : Int)])
theorem ba_eta (s : ByteArray) : (⟨s.data.toList.toArray⟩ : ByteArray) = s := by cases s; rfl
theorem ba_of (s : ByteArray) (l : List UInt8) (h : s.data.toList = l) : s = ⟨l.toArray⟩ := by rw [← h]
theorem ext_at (s : ByteArray) (p n : Nat) (h : p + n ≤ s.size) : s.extract p (p + n) = ⟨((s.data.toList.drop p).take n).toArray⟩ := by
  apply ba_of
  have := ext_take s p n h
  rwa [ByteArray.toList_eq] at this

theorem ref_Keywords' (w : World) :
    Calls Tryd.prog 75 #[] w fun e w' => ∃ A, e = .returned (.slice A 12 12) ∧ Below w.heap.size w w' ∧ Hid (Strs w' A 12 kwStrs) :=
  (ref_Keywords w).mono fun _ _ h => ⟨_, h⟩
/-- two variables of four cells, each in its own block: the result's and the token's -/
abbrev Two (w : World) (A B C D E F G H : Value) (w' : World) : Prop :=
  w'.cell? ⟨w.heap.size, 0, none⟩ = some A ∧ w'.cell? ⟨w.heap.size, 1, none⟩ = some B ∧ w'.cell? ⟨w.heap.size, 2, none⟩ = some C ∧ w'.cell? ⟨w.heap.size, 3, none⟩ = some D ∧ (∀ i, w'.frozen? ⟨w.heap.size, i, none⟩ = false) ∧
  w'.cell? ⟨w.heap.size + 1, 0, none⟩ = some E ∧ w'.cell? ⟨w.heap.size + 1, 1, none⟩ = some F ∧ w'.cell? ⟨w.heap.size + 1, 2, none⟩ = some G ∧ w'.cell? ⟨w.heap.size + 1, 3, none⟩ = some H ∧ (∀ i, w'.frozen? ⟨w.heap.size + 1, i, none⟩ = false) ∧ Below w.heap.size w w'
theorem two_new (w : World) (A B C D E F G H : Value) (ty tz : TypeId) : Two w A B C D E F G H ((w.alloc (.cells #[A, B, C, D] ty)).alloc (.cells #[E, F, G, H] tz)).drew := by
  have e : ∀ i, ((w.alloc (.cells #[A, B, C, D] ty)).alloc (.cells #[E, F, G, H] tz)).cell? ⟨w.heap.size + 1, i, none⟩ = #[E, F, G, H][i]? := fun i => World.cell?_alloc_at _ _ _ _ (by rw [World.size_alloc])
  have e' : ∀ i, ((w.alloc (.cells #[A, B, C, D] ty)).alloc (.cells #[E, F, G, H] tz)).cell? ⟨w.heap.size, i, none⟩ = #[A, B, C, D][i]? := fun i => by
    rw [World.cell?_alloc_past _ _ _ (by rw [World.size_alloc]; omega), World.cell?_alloc_at _ _ _ _ rfl]
  have f : ∀ i, ((w.alloc (.cells #[A, B, C, D] ty)).alloc (.cells #[E, F, G, H] tz)).frozen? ⟨w.heap.size + 1, i, none⟩ = false := fun i => World.frozen?_alloc_at _ _ _ _ (by rw [World.size_alloc])
  have f' : ∀ i, ((w.alloc (.cells #[A, B, C, D] ty)).alloc (.cells #[E, F, G, H] tz)).frozen? ⟨w.heap.size, i, none⟩ = false := fun i => by
    rw [World.frozen?_alloc_past _ _ _ (by rw [World.size_alloc]; omega), World.frozen?_alloc_at _ _ _ _ rfl]
  exact ⟨e' 0, e' 1, e' 2, e' 3, f', e 0, e 1, e 2, e 3, f, (((Below.refl _ _).alloc (Nat.le_refl _) _).alloc (by rw [World.size_alloc]; omega) _).drew⟩
theorem two_new0 (w : World) (A B C D E F G H : Value) (ty tz : TypeId) : Two w A B C D E F G H ((w.alloc (.cells #[A, B, C, D] ty)).alloc (.cells #[E, F, G, H] tz)) := by
  obtain ⟨a, b, c, d, e, f, g, h, i, j, k⟩ := two_new w A B C D E F G H ty tz
  exact ⟨a, b, c, d, e, f, g, h, i, j, k.os, k.tape, k.output, k.size, k.block⟩
theorem block_lt_cell {w : World} {a : Addr} {v : Value} (h : w.cell? a = some v) : a.block < w.heap.size := World.block_lt_of_cell? w _ h
theorem two_below {w wr w1 : World} {A B C D E F G H : Value} (h : Two w A B C D E F G H wr) (hb : Below wr.heap.size wr w1) : Two w A B C D E F G H w1 := by
  obtain ⟨a, b, c, d, e, f, g, i, j, k, l⟩ := h
  exact ⟨bcell hb a, bcell hb b, bcell hb c, bcell hb d, fun n => (World.frozen?_of_block (a := ⟨w.heap.size, n, none⟩) (hb.block w.heap.size (block_lt_cell a))).trans (e n),
    bcell hb f, bcell hb g, bcell hb i, bcell hb j, fun n => (World.frozen?_of_block (a := ⟨w.heap.size + 1, n, none⟩) (hb.block (w.heap.size + 1) (block_lt_cell f))).trans (k n), bthen l hb⟩

set_option maxRecDepth 20000 in
set_option maxHeartbeats 400000 in
theorem ref_token (s : ByteArray) (p : Nat) (w : World) (hs : s.size ≤ 1048576) (hp : p < s.size) :
    Calls Tryd.prog 40 #[.string s, .int .i64 p] w fun e w' => e = tokT p (tokS (s.data.toList.drop p)) ∧ Below w.heap.size w w' := by
  have hix := sB_index s p hp
  have hd := sB_drop s p hp
  generalize hcc : sB s p = c at hix hd
  have hc : c.toNat < 256 := c.toNat_lt
  have hwl := wordLen_le (s.data.toList.drop p)
  rw [List.length_drop, data_len] at hwl
  have hhd : (s.data.toList.drop p).headD 0 = c := by rw [hd]; rfl
  have hext := ext_at s p (wordLen (s.data.toList.drop p)) (by omega)
  have htok : tokS (s.data.toList.drop p) = tokS (s.data.toList.drop p) := rfl
  conv at htok => rhs; unfold tokS
  simp only [hhd] at htok
  have hkw := fun A W hx => ref_isIn A 12 12 kwStrs (s.extract p (p + wordLen (s.data.toList.drop p))) W hx (by omega)
  rw [kw_in, hext] at hkw
  have hword := fun W => ref_wordAt s p W hs (by omega)
  have hnum := fun W => ref_number (s.extract p (p + wordLen (s.data.toList.drop p))) W (by rw [ByteArray.size_extract]; omega)
  have hquo := fun W => ref_quoted s p W hs hp
  have hsig := fun W => ref_sign s p W hs (by omega)
  have htl : (s.data.toList.drop p).tail = s.data.toList.drop (p + 1) := by rw [hd]; rfl
  rw [htl] at htok
  have hsz : (s.data.toList.drop p).length = s.size - p := by rw [List.length_drop, data_len]
  rw [hsz] at htok
  rw [hext] at hnum
  simp only [] at hkw hnum
  have hsl := signS_len (s.data.toList.drop p)
  rw [hsz] at hsl
  have htn : ((s.data.toList.drop p).take (wordLen (s.data.toList.drop p))).length = wordLen (s.data.toList.drop p) := by rw [List.length_take, hsz]; omega
  have hql : ∀ b r, quoS (s.data.toList.drop (p + 1)) [] = some (b, r) → r.length ≤ s.size - p ∧ b.length ≤ 2047 := by
    intro b r h
    have := quoS_len h
    rw [List.length_drop, data_len] at this
    have h3 := this.2.2 (by simp)
    omega
  generalize wordLen (s.data.toList.drop p) = n at *
  generalize (s.data.toList.drop p).take n = t at *
  generalize signS (s.data.toList.drop p) = sg at *
  generalize quoS (s.data.toList.drop (p + 1)) [] = q at *
  generalize tokS (s.data.toList.drop p) = T at *
  have hw2 : IntKind.i64.wrap ((p : Int) + (n : Int)) = (p : Int) + (n : Int) := i64_in _ (by omega)
  have hb1 : (0 : Int) ≤ (p : Int) := by omega
  have hb2 : (p : Int) ≤ (p : Int) + (n : Int) := by omega
  have hb3 : (p : Int) + (n : Int) ≤ (s.size : Int) := by omega
  have hext' : s.extract p ((p : Int) + (n : Int)).toNat = ⟨t.toArray⟩ := by rw [show ((p : Int) + (n : Int)).toNat = p + n by omega]; exact hext
  clear hcc hd hhd htl hsz hext
  by_cases h1 : isLetter c.toNat = true
  · rw [if_pos h1] at htok
    clear hnum hquo hsig hql
    by_cases h2 : isKeyword t = true
    · rw [if_pos h2, htn] at htok
      subst htok
      simp only [h2] at hkw
      go_enter Tryd.func40, Tryd.ntmps40
      go_wp2_with (first
        | (go_at_call 71; refine (hword _).mono ?_; rintro e w' ⟨rfl, rfl⟩)
        | (go_at_call 72; refine (ref_letter _ _).mono ?_; rintro e w' ⟨rfl, rfl⟩)
        | (go_at_call 73; refine (ref_digit _ _).mono ?_; rintro e w' ⟨rfl, rfl⟩)
        | fail)
      go_region_held3 (fun w' => w'.cell? ⟨w.heap.size, 0, none⟩ = some (.int .i64 0) ∧ w'.cell? ⟨w.heap.size, 1, none⟩ = some (.string ⟨#[]⟩) ∧ w'.cell? ⟨w.heap.size, 2, none⟩ = some (.int .i64 0) ∧ w'.cell? ⟨w.heap.size, 3, none⟩ = some (.int .i64 0) ∧ (∀ i, w'.frozen? ⟨w.heap.size, i, none⟩ = false) ∧ w'.cell? ⟨w.heap.size + 1, 0, none⟩ = some (.int .i64 1) ∧ w'.cell? ⟨w.heap.size + 1, 1, none⟩ = some (.string ⟨t.toArray⟩) ∧ w'.cell? ⟨w.heap.size + 1, 2, none⟩ = some (.int .i64 0) ∧ w'.cell? ⟨w.heap.size + 1, 3, none⟩ = some (.int .i64 p) ∧ (∀ i, w'.frozen? ⟨w.heap.size + 1, i, none⟩ = false) ∧ Below w.heap.size w w') ((first | assumption | exact two_new _ _ _ _ _ _ _ _ _ _ _ | exact two_below ‹_› hB)) (first
        | (go_at_call 75; refine (ref_Keywords' _).mono ?_; rintro e w1 ⟨A, rfl, hB, HS⟩)
        | (go_at_call 74; refine (hkw _ _ HS).mono ?_; rintro e w' ⟨rfl, rfl⟩))
      all_goals (rename_i hH; obtain ⟨a0, a1, a2, a3, a4, f0, f1, f2, f3, f4, hBw⟩ := hH; have HBw := Lib.hid hBw; clear hBw)
      all_goals go_wp2
      refine bodyPost_ret (v := .tuple #[tokV 2 t 0 p, .int .i64 ((p : Int) + (n : Int)), .int .i64 0]) (by simp [results, tokV, Tryd.results40, go_sem, World.cell?_setCell_far, a0, a1, a2, a3]) rfl ⟨?_, ?_⟩
      · simp [tokT]
      · refine ((((HBw.out.setCell ?_ _).setCell ?_ _).setCell ?_ _).setCell ?_ _).setCell ?_ _ <;> simp
    have h2' : isKeyword t = false := by simpa using h2
    simp only [h2'] at hkw
    rw [if_neg h2] at htok
    by_cases h3 : 20 < n
    · rw [if_pos (by omega)] at htok
      subst htok
      go_enter Tryd.func40, Tryd.ntmps40
      go_wp2_with (first
        | (go_at_call 71; refine (hword _).mono ?_; rintro e w' ⟨rfl, rfl⟩)
        | (go_at_call 72; refine (ref_letter _ _).mono ?_; rintro e w' ⟨rfl, rfl⟩)
        | (go_at_call 73; refine (ref_digit _ _).mono ?_; rintro e w' ⟨rfl, rfl⟩)
        | fail)
      go_region_held3 (fun w' => w'.cell? ⟨w.heap.size, 0, none⟩ = some (.int .i64 0) ∧ w'.cell? ⟨w.heap.size, 1, none⟩ = some (.string ⟨#[]⟩) ∧ w'.cell? ⟨w.heap.size, 2, none⟩ = some (.int .i64 0) ∧ w'.cell? ⟨w.heap.size, 3, none⟩ = some (.int .i64 0) ∧ (∀ i, w'.frozen? ⟨w.heap.size, i, none⟩ = false) ∧ w'.cell? ⟨w.heap.size + 1, 0, none⟩ = some (.int .i64 1) ∧ w'.cell? ⟨w.heap.size + 1, 1, none⟩ = some (.string ⟨t.toArray⟩) ∧ w'.cell? ⟨w.heap.size + 1, 2, none⟩ = some (.int .i64 0) ∧ w'.cell? ⟨w.heap.size + 1, 3, none⟩ = some (.int .i64 p) ∧ (∀ i, w'.frozen? ⟨w.heap.size + 1, i, none⟩ = false) ∧ Below w.heap.size w w') ((first | assumption | exact two_new _ _ _ _ _ _ _ _ _ _ _ | exact two_below ‹_› hB)) (first
        | (go_at_call 75; refine (ref_Keywords' _).mono ?_; rintro e w1 ⟨A, rfl, hB, HS⟩)
        | (go_at_call 74; refine (hkw _ _ HS).mono ?_; rintro e w' ⟨rfl, rfl⟩))
      all_goals (rename_i hH; obtain ⟨a0, a1, a2, a3, a4, f0, f1, f2, f3, f4, hBw⟩ := hH; have HBw := Lib.hid hBw; clear hBw)
      all_goals go_wp2
      refine bodyPost_ret (v := .tuple #[tokV 0 [] 0 0, .int .i64 0, .int .i64 164]) (by simp [results, tokV, Tryd.results40, go_sem, World.cell?_setCell_far, a0, a1, a2, a3]) rfl ⟨?_, ?_⟩
      · simp [tokT]
      · refine ((((HBw.out.setCell ?_ _).setCell ?_ _).setCell ?_ _).setCell ?_ _) <;> simp
    · rw [if_neg (by omega), htn] at htok
      subst htok
      go_enter Tryd.func40, Tryd.ntmps40
      go_wp2_with (first
        | (go_at_call 71; refine (hword _).mono ?_; rintro e w' ⟨rfl, rfl⟩)
        | (go_at_call 72; refine (ref_letter _ _).mono ?_; rintro e w' ⟨rfl, rfl⟩)
        | (go_at_call 73; refine (ref_digit _ _).mono ?_; rintro e w' ⟨rfl, rfl⟩)
        | fail)
      go_region_held3 (fun w' => w'.cell? ⟨w.heap.size, 0, none⟩ = some (.int .i64 0) ∧ w'.cell? ⟨w.heap.size, 1, none⟩ = some (.string ⟨#[]⟩) ∧ w'.cell? ⟨w.heap.size, 2, none⟩ = some (.int .i64 0) ∧ w'.cell? ⟨w.heap.size, 3, none⟩ = some (.int .i64 0) ∧ (∀ i, w'.frozen? ⟨w.heap.size, i, none⟩ = false) ∧ w'.cell? ⟨w.heap.size + 1, 0, none⟩ = some (.int .i64 1) ∧ w'.cell? ⟨w.heap.size + 1, 1, none⟩ = some (.string ⟨t.toArray⟩) ∧ w'.cell? ⟨w.heap.size + 1, 2, none⟩ = some (.int .i64 0) ∧ w'.cell? ⟨w.heap.size + 1, 3, none⟩ = some (.int .i64 p) ∧ (∀ i, w'.frozen? ⟨w.heap.size + 1, i, none⟩ = false) ∧ Below w.heap.size w w') ((first | assumption | exact two_new _ _ _ _ _ _ _ _ _ _ _ | exact two_below ‹_› hB)) (first
        | (go_at_call 75; refine (ref_Keywords' _).mono ?_; rintro e w1 ⟨A, rfl, hB, HS⟩)
        | (go_at_call 74; refine (hkw _ _ HS).mono ?_; rintro e w' ⟨rfl, rfl⟩))
      all_goals (rename_i hH; obtain ⟨a0, a1, a2, a3, a4, f0, f1, f2, f3, f4, hBw⟩ := hH; have HBw := Lib.hid hBw; clear hBw)
      all_goals go_wp2
      refine bodyPost_ret (v := .tuple #[tokV 1 t 0 p, .int .i64 ((p : Int) + (n : Int)), .int .i64 0]) (by simp [results, tokV, Tryd.results40, go_sem, World.cell?_setCell_far, a0, a1, a2, a3]) rfl ⟨?_, ?_⟩
      · simp [tokT]
      · refine (((HBw.out.setCell ?_ _).setCell ?_ _).setCell ?_ _).setCell ?_ _ <;> simp
  have h1' : isLetter c.toNat = false := by simpa using h1
  rw [if_neg h1] at htok
  clear hkw
  by_cases h2 : isDigit c.toNat = true
  · rw [if_pos h2] at htok
    clear hsig hquo hql
    rcases hn : numS t with _ | u
    · rw [hn] at htok hnum
      simp only [] at htok
      subst htok
      go_enter Tryd.func40, Tryd.ntmps40
      go_wp2_with (first
        | (go_at_call 71; refine (hword _).mono ?_; rintro e w' ⟨rfl, rfl⟩)
        | (go_at_call 72; refine (ref_letter _ _).mono ?_; rintro e w' ⟨rfl, rfl⟩)
        | (go_at_call 73; refine (ref_digit _ _).mono ?_; rintro e w' ⟨rfl, rfl⟩)
        | (go_at_call 76; refine (hnum _).mono ?_; rintro e w' ⟨⟨v, rfl, hv⟩, rfl⟩))
      refine bodyPost_ret (v := .tuple #[tokV 0 [] 0 0, .int .i64 0, .int .i64 162]) (by simp [results, tokV, Tryd.results40, go_sem]) rfl ⟨by simp [tokT], ?_⟩
      exact ((Below.refl _ _).alloc (Nat.le_refl _) _).alloc (by simp) _
    · rw [hn, htn] at htok
      rw [hn] at hnum
      simp only [] at htok
      subst htok
      go_enter Tryd.func40, Tryd.ntmps40
      go_wp2_with (first
        | (go_at_call 71; refine (hword _).mono ?_; rintro e w' ⟨rfl, rfl⟩)
        | (go_at_call 72; refine (ref_letter _ _).mono ?_; rintro e w' ⟨rfl, rfl⟩)
        | (go_at_call 73; refine (ref_digit _ _).mono ?_; rintro e w' ⟨rfl, rfl⟩)
        | (go_at_call 76; refine (hnum _).mono ?_; rintro e w' ⟨⟨v, rfl, hv⟩, rfl⟩; obtain rfl := hv u rfl))
      refine bodyPost_ret (v := .tuple #[tokV 3 [] u p, .int .i64 ((p : Int) + (n : Int)), .int .i64 0]) (by simp [results, tokV, Tryd.results40, go_sem]) rfl ⟨by simp [tokT], ?_⟩
      exact ((Below.refl _ _).alloc (Nat.le_refl _) _).alloc (by simp) _
  have h2' : isDigit c.toNat = false := by simpa using h2
  rw [if_neg h2] at htok
  clear hnum hword
  have hword := fun W => ref_wordAt s p W hs (by omega)
  by_cases h3 : c.toNat = 34
  · rw [if_pos h3] at htok
    rcases hq : q with _ | ⟨b, r⟩
    · rw [hq] at htok hquo
      simp only [] at htok
      subst htok
      replace hquo : ∀ W : World, Calls Tryd.prog 77 #[.string s, .int .i64 p] W fun e w' => e = .returned (.tuple #[.string ⟨#[]⟩, .int .i64 0, .bool false]) ∧ Below W.heap.size W w' := hquo
      have q34 : ((c.toNat : Int) == 34) = true := by simp [h3]
      go_enter Tryd.func40, Tryd.ntmps40
      go_wp2_with (first
        | (go_at_call 71; refine (hword _).mono ?_; rintro e w' ⟨rfl, rfl⟩)
        | (go_at_call 72; refine (ref_letter _ _).mono ?_; rintro e w' ⟨rfl, rfl⟩)
        | (go_at_call 73; refine (ref_digit _ _).mono ?_; rintro e w' ⟨rfl, rfl⟩)
        | (go_at_call 77; refine (hquo _).mono ?_; rintro e w1 ⟨rfl, hB⟩; obtain ⟨a0, a1, a2, a3, a4, f0, f1, f2, f3, f4, hBw⟩ := two_below (two_new0 _ _ _ _ _ _ _ _ _ _ _) hB; have HBw := Lib.hid hBw; clear hBw))
      refine bodyPost_ret (v := .tuple #[tokV 0 [] 0 0, .int .i64 0, .int .i64 163]) (by simp [results, tokV, Tryd.results40, go_sem, World.cell?_setCell_far, a0, a1, a2, a3, f0, f1, f2, f3]) rfl ⟨?_, ?_⟩
      · simp [tokT]
      · refine ((((HBw.out.setCell ?_ _).setCell ?_ _).setCell ?_ _).setCell ?_ _) <;> simp
    · have hq2 := hql b r hq
      rw [hq] at htok hquo
      simp only [] at htok
      subst htok
      have hnx : ((s.size - r.length : Nat) : Int) = ((p + (s.size - p - r.length) : Nat) : Int) := by omega
      replace hquo : ∀ W : World, Calls Tryd.prog 77 #[.string s, .int .i64 p] W fun e w' => e = .returned (.tuple #[.string ⟨b.toArray⟩, .int .i64 ((p + (s.size - p - r.length) : Nat) : Int), .bool true]) ∧ Below W.heap.size W w' := by rw [← hnx]; exact hquo
      generalize s.size - p - r.length = m at *
      have q34 : ((c.toNat : Int) == 34) = true := by simp [h3]
      go_enter Tryd.func40, Tryd.ntmps40
      go_wp2_with (first
        | (go_at_call 71; refine (hword _).mono ?_; rintro e w' ⟨rfl, rfl⟩)
        | (go_at_call 72; refine (ref_letter _ _).mono ?_; rintro e w' ⟨rfl, rfl⟩)
        | (go_at_call 73; refine (ref_digit _ _).mono ?_; rintro e w' ⟨rfl, rfl⟩)
        | (go_at_call 77; refine (hquo _).mono ?_; rintro e w1 ⟨rfl, hB⟩; obtain ⟨a0, a1, a2, a3, a4, f0, f1, f2, f3, f4, hBw⟩ := two_below (two_new0 _ _ _ _ _ _ _ _ _ _ _) hB; have HBw := Lib.hid hBw; clear hBw))
      refine bodyPost_ret (v := .tuple #[tokV 4 b 0 p, .int .i64 ((p + m : Nat) : Int), .int .i64 0]) (by simp [results, tokV, Tryd.results40, go_sem, World.cell?_setCell_far, a0, a1, a2, a3, f0, f1, f2, f3]) rfl ⟨?_, ?_⟩
      · simp [tokT]
      · refine ((((((HBw.out.setCell ?_ _).setCell ?_ _).setCell ?_ _).setCell ?_ _).setCell ?_ _).setCell ?_ _) <;> simp
  have q34 : ((c.toNat : Int) == 34) = false := by simp; omega
  rw [if_neg h3] at htok
  clear hquo hql
  by_cases h4 : sg = []
  · rw [if_pos h4] at htok
    subst htok
    rw [h4] at hsig
    go_enter Tryd.func40, Tryd.ntmps40
    go_wp2_with (first
      | (go_at_call 71; refine (hword _).mono ?_; rintro e w' ⟨rfl, rfl⟩)
      | (go_at_call 72; refine (ref_letter _ _).mono ?_; rintro e w' ⟨rfl, rfl⟩)
      | (go_at_call 73; refine (ref_digit _ _).mono ?_; rintro e w' ⟨rfl, rfl⟩)
      | (go_at_call 78; refine (hsig _).mono ?_; rintro e w1 ⟨rfl, hB⟩; obtain ⟨a0, a1, a2, a3, a4, f0, f1, f2, f3, f4, hBw⟩ := two_below (two_new0 _ _ _ _ _ _ _ _ _ _ _) hB; have HBw := Lib.hid hBw; clear hBw hB))
    refine bodyPost_ret (v := .tuple #[tokV 0 [] 0 0, .int .i64 0, .int .i64 161]) (by simp [results, tokV, Tryd.results40, go_sem, World.cell?_setCell_far, a0, a1, a2, a3, f0, f1, f2, f3]) rfl ⟨?_, ?_⟩
    · simp [tokT]
    · refine (((((HBw.out.setCell ?_ _).setCell ?_ _).setCell ?_ _).setCell ?_ _).setCell ?_ _) <;> simp
  · rw [if_neg h4] at htok
    subst htok
    have hsz2 : (⟨sg.toArray⟩ : ByteArray).size = sg.length := by simp [ByteArray.size]
    have hem : sg.isEmpty = false := by simpa using h4
    have hsl2 := hsl h4
    go_enter Tryd.func40, Tryd.ntmps40
    go_wp2_with (first
      | (go_at_call 71; refine (hword _).mono ?_; rintro e w' ⟨rfl, rfl⟩)
      | (go_at_call 72; refine (ref_letter _ _).mono ?_; rintro e w' ⟨rfl, rfl⟩)
      | (go_at_call 73; refine (ref_digit _ _).mono ?_; rintro e w' ⟨rfl, rfl⟩)
      | (go_at_call 78; refine (hsig _).mono ?_; rintro e w1 ⟨rfl, hB⟩; obtain ⟨a0, a1, a2, a3, a4, f0, f1, f2, f3, f4, hBw⟩ := two_below (two_new0 _ _ _ _ _ _ _ _ _ _ _) hB; have HBw := Lib.hid hBw; clear hBw hB))
    go_region
    go_wp2
    refine bodyPost_ret (v := .tuple #[tokV 5 sg 0 p, .int .i64 ((p : Int) + (sg.length : Int)), .int .i64 0]) (by simp [results, tokV, Tryd.results40, go_sem, World.cell?_setCell_far, a0, a1, a2, a3, f0, f1, f2, f3]) rfl ⟨?_, ?_⟩
    · simp [tokT]
    · refine (((((HBw.out.setCell ?_ _).setCell ?_ _).setCell ?_ _).setCell ?_ _).setCell ?_ _).drew <;> simp
end Go.Proofs.YtgnoiliaidfepaaDoor
