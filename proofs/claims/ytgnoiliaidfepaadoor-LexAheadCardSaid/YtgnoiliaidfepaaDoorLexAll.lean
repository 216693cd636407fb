/- Contract of lex.All. -/
import Derived.Test.YtgnoiliaidfepaaDoorLexToken2
import Derived.Lib.IndexBytes
import Derived.WalkMore
set_option linter.unusedVariables false
set_option linter.unusedSimpArgs false
namespace Go.Proofs.YtgnoiliaidfepaaDoor
open Go.RowKit Go.IntWalk

theorem cut_line (R : List UInt8) : (Lib.cut R [10]).1 = R.takeWhile (fun c => c != 10) := by
  have key : ∀ R : List UInt8, (if 0 ≤ Lib.indexByte R 10 then R.take (Lib.indexByte R 10).toNat else R) = R.takeWhile (fun c => c != 10) := by
    intro R
    induction R with
    | nil => rfl
    | cons b l ih =>
      have hg := Lib.indexByte_ge l 10
      unfold Lib.indexByte
      by_cases hb : b = 10
      · subst hb; simp
      · have hb' : (b == 10) = false := by simpa using hb
        rw [hb']
        simp only [Bool.false_eq_true, if_false]
        have e : List.takeWhile (fun c : UInt8 => c != 10) (b :: l) = b :: List.takeWhile (fun c => c != 10) l := by simp [List.takeWhile_cons, hb]
        rw [e, ← ih]
        by_cases h1 : Lib.indexByte l 10 = -1
        · rw [h1]; simp
        · have e2 : (if (Lib.indexByte l 10 == -1) = true then (-1 : Int) else Lib.indexByte l 10 + 1) = Lib.indexByte l 10 + 1 := if_neg (by simpa using h1)
          rw [e2, if_pos (show 0 ≤ Lib.indexByte l 10 + 1 by omega), if_pos (show 0 ≤ Lib.indexByte l 10 by omega)]
          have : (Lib.indexByte l 10 + 1).toNat = (Lib.indexByte l 10).toNat + 1 := by omega
          rw [this, List.take_succ_cons]
  rw [← key, Lib.cut, Lib.index_one]
  split <;> rfl
theorem skip_line (R : List UInt8) : skip true R = skip false (R.drop (R.takeWhile (fun c => c != 10)).length) := by
  induction R with
  | nil => rfl
  | cons b l ih =>
    by_cases hb : b = 10
    · subst hb
      rw [skip_nl]
      simp
    · have hn : ¬ b.toNat = 10 := fun h => hb (UInt8.toNat_inj.1 h)
      rw [skip, if_neg hn, ih]
      simp [hb]
theorem skip_trim (l : List UInt8) : skip false l = skip false (Lib.trimLeftS l [32, 9, 10, 13]) := by
  induction l with
  | nil => rfl
  | cons c r ih =>
    have key : ∀ n : Fin 256, ([32, 9, 10, 13] : List UInt8).contains (UInt8.ofNat n.val) = isBlank (UInt8.ofNat n.val) := by decide +kernel
    have hk := key ⟨c.toNat, c.toNat_lt⟩
    simp only [UInt8.ofNat_toNat] at hk
    by_cases hb : isBlank c = true
    · rw [hb] at hk
      rw [skip, if_pos hb, ih]
      simp only [Lib.trimLeftS, List.dropWhile_cons, hk, if_true]
    · have hb' : isBlank c = false := by simpa using hb
      rw [hb'] at hk
      simp only [Lib.trimLeftS, List.dropWhile_cons, hk, if_false, Bool.false_eq_true]
theorem trim_head (l : List UInt8) (c : UInt8) (r : List UInt8) (h : Lib.trimLeftS l [32, 9, 10, 13] = c :: r) : isBlank c = false := by
  have key : ∀ n : Fin 256, ([32, 9, 10, 13] : List UInt8).contains (UInt8.ofNat n.val) = isBlank (UInt8.ofNat n.val) := by decide +kernel
  have hk := key ⟨c.toNat, c.toNat_lt⟩
  simp only [UInt8.ofNat_toNat] at hk
  rw [← hk]
  induction l with
  | nil => simp [Lib.trimLeftS] at h
  | cons a l ih =>
    simp only [Lib.trimLeftS, List.dropWhile_cons] at h
    split at h
    · exact ih h
    · injection h with h1 h2
      rw [← h1]
      rename_i hh
      simpa using hh
theorem trim_drop (l : List UInt8) : Lib.trimLeftS l [32, 9, 10, 13] = l.drop (l.length - (Lib.trimLeftS l [32, 9, 10, 13]).length) ∧ (Lib.trimLeftS l [32, 9, 10, 13]).length ≤ l.length := by
  have h : (Lib.trimLeftS l [32, 9, 10, 13]) <:+ l := List.dropWhile_suffix _
  refine ⟨?_, h.length_le⟩
  exact List.suffix_iff_eq_drop.1 h
theorem allFrom_same {a b : List UInt8} {p q : Nat} {acc : List Tok} (h : skip false a = skip false b) (hpq : p + a.length = q + b.length) : allFrom a p acc = allFrom b q acc := by
  have h1 := skip_len false a
  have h2 := skip_len false b
  rw [allFrom_skip a, allFrom_skip b, h]
  congr 1
  rw [h] at h1
  omega

/-- a slice of tokens that can be read: its block is one of 'ok' -/
def RdT (ok : Nat → Prop) (w : World) (v : Value) (l : List Tok) : Prop :=
  (l = [] ∧ v = .slice none 0 0) ∨ ∃ g cap cur, v = .slice (some ⟨g, 0, none⟩) l.length cap ∧ ok g ∧ w.heap[g]? = some (.cells cur 41 (0, 0)) ∧ l.length ≤ cap ∧ cap * 4 ≤ cur.size ∧ cap ≤ maxLen ∧ cur.toList.take (l.length * 4) = tvals l
theorem OwnT.rd {ok : Nat → Prop} {w : World} {v : Value} {l : List Tok} (h : OwnT ok w v l) : RdT ok w v l := by
  rcases h.row.2 with ⟨rfl, hn⟩ | ⟨g, cap, cur, rfl, _, hh, hl, hm, hc, ht⟩
  · exact .inl ⟨List.eq_nil_of_length_eq_zero hn, rfl⟩
  · exact .inr ⟨g, cap, cur, rfl, h.blk g rfl, hh, hl, by omega, hm, ht⟩
theorem RdT.clip {ok : Nat → Prop} {w : World} {g n cap : Nat} {l : List Tok} (h : RdT ok w (.slice (some ⟨g, 0, none⟩) n cap) l) : n = l.length ∧ RdT ok w (.slice (some ⟨g, 0, none⟩) n n) l := by
  rcases h with ⟨_, h⟩ | ⟨g', cap', cur, hv, ho, hb, hl, hs, hm, ht⟩
  · cases h
  · injection hv with h1 h2 h3
    injection h1 with h1
    injection h1 with h1
    subst h1 h2 h3
    exact ⟨rfl, .inr ⟨_, _, cur, rfl, ho, hb, Nat.le_refl _, by omega, by omega, ht⟩⟩
def AllPostL (w : World) (r : Except (Nat × Nat) (List Tok)) (e : Ending) (w' : World) : Prop := Below w.heap.size w w' ∧ match r with
  | .error (p, n) => e = .returned (.tuple #[.slice none 0 0, .int .i64 (p : Int), .int .i64 (n : Int)])
  | .ok toks => ∃ g n, e = .returned (.tuple #[.slice (some ⟨g, 0, none⟩) n n, .int .i64 0, .int .i64 0]) ∧ RdT (behind w) w' (.slice (some ⟨g, 0, none⟩) n n) toks
theorem allRun_ok {f : Nat} : ∀ {l : List UInt8} {p : Nat} {acc toks : List Tok}, allRun f l p acc = .ok toks → toks ≠ [] := by
  induction f with
  | zero => intro l p acc toks h; simp [allRun] at h
  | succ f ih =>
    intro l p acc toks h
    simp only [allRun] at h
    split at h
    · injection h with h; rw [← h]; simp
    · split at h
      · cases h
      · exact ih h

theorem clip_call (g n cap : Nat) (h : n ≤ cap) (hc : cap ≤ maxLen) (W : World) :
    Calls Tryd.prog 38 #[.slice (some ⟨g, 0, none⟩) n cap] W fun e w' => e = .returned (.slice (some ⟨g, 0, none⟩) n n) ∧ W = w' := by
  unfold maxLen at hc
  go_enter Tryd.func38, Tryd.ntmps38
  go_wp2
  go_ret
  exact ⟨rfl, rfl⟩
theorem OwnT.form {ok : Nat → Prop} {w : World} {v : Value} {l : List Tok} (h : OwnT ok w v l) (hn : l ≠ []) : ∃ g n cap, v = .slice (some ⟨g, 0, none⟩) n cap ∧ n ≤ cap ∧ cap ≤ maxLen := by
  rcases h.row.2 with ⟨rfl, h0⟩ | ⟨g, cap, cur, rfl, _, hh, hl, hm, hc, ht⟩
  · exact absurd (List.eq_nil_of_length_eq_zero h0) hn
  · exact ⟨g, _, cap, rfl, hl, hm⟩
theorem cut_call (R : List UInt8) (hR : R.length ≤ 1048576) (W : World) (hW : LexW W) :
    Calls Tryd.prog 36 #[.string ⟨R.toArray⟩, .string ⟨#[10]⟩] W fun e w' => ∃ b c, e = .returned (.tuple #[.string ⟨(R.takeWhile (fun c => c != 10)).toArray⟩, b, c]) ∧ Below W.heap.size W w' := by
  obtain ⟨⟨m, hm⟩, _⟩ := hW
  refine (Tryd.strings_Cut ⟨R.toArray⟩ ⟨#[10]⟩ m W (by rw [show (⟨R.toArray⟩ : ByteArray).size = R.length from by simp [ByteArray.size]]; omega) hm).mono fun e w' ⟨h1, n, h2⟩ => ?_
  refine ⟨.string ⟨(Lib.cut R [10]).2.1.toArray⟩, .bool (Lib.cut R [10]).2.2, ?_, ?_⟩
  · rw [← cut_line]; exact h1
  · rw [h2]; exact ⟨rfl, rfl, rfl, Nat.le_refl _, fun _ _ => rfl⟩
theorem hp_call (R : List UInt8) (W : World) :
    Calls Tryd.prog 35 #[.string ⟨R.toArray⟩, .string ⟨#[47, 47]⟩] W fun e w' => e = .returned (.bool (Lib.hasPrefix R [47, 47])) ∧ W = w' :=
  (Tryd.strings_HasPrefix ⟨R.toArray⟩ ⟨#[47, 47]⟩ W).mono fun e w' h => ⟨h.1, h.2.symm⟩
theorem note_skip {R : List UInt8} (h : Lib.hasPrefix R [47, 47] = true) : skip false R = skip false (R.drop (R.takeWhile (fun c => c != 10)).length) ∧ 0 < (R.takeWhile (fun c => c != 10)).length := by
  match R, h with
  | c :: d :: r, h =>
    simp [Lib.hasPrefix, List.isPrefixOf] at h
    obtain ⟨h1, h2⟩ := h
    obtain rfl : c = 47 := h1.symm
    obtain rfl : d = 47 := h2.symm
    refine ⟨?_, by simp⟩
    rw [← skip_line]
    rfl
  | [c], h => simp [Lib.hasPrefix, List.isPrefixOf] at h
  | [], h => simp [Lib.hasPrefix, List.isPrefixOf] at h
theorem head_skip {c : UInt8} {r : List UInt8} (hb : isBlank c = false) (h : Lib.hasPrefix (c :: r) [47, 47] = false) : skip false (c :: r) = c :: r := by
  rw [skip, if_neg (by rw [hb]; simp), if_neg]
  rintro ⟨h1, h2⟩
  have : c = 47 := UInt8.toNat_inj.1 h1
  subst this
  cases r with
  | nil => simp at h2
  | cons d r =>
    simp at h2
    subst h2
    simp [Lib.hasPrefix, List.isPrefixOf] at h
theorem below_drewN (w : World) (n : Nat) : Below w.heap.size w (w.drewN n) := ⟨rfl, rfl, rfl, Nat.le_refl _, fun _ _ => rfl⟩
theorem ba_size (R : List UInt8) : (⟨R.toArray⟩ : ByteArray).size = R.length := by simp [ByteArray.size]

set_option maxRecDepth 20000 in
set_option maxHeartbeats 400000 in
theorem lex_All (s : ByteArray) (w : World) (hsz : s.size ≤ 9223372036854775807) (hW : LexW w) :
    Calls Tryd.prog 15 #[.string s] w fun e w' => AllPostL w (allS s.data.toList) e w' := by
  by_cases h0 : 8192 < s.size
  · have H : Hid (allS s.data.toList = .error (0, 160)) := by
      show _ = _
      rw [allS, if_pos (by rw [data_len]; exact h0)]
    go_enter Tryd.func15, Tryd.ntmps15
    go_wp2
    go_step3
    go_wp2
    try rw [Exit.noGoto_ret]
    go_ret3
    rw [H.out]
    exact ⟨Below.refl _ _, rfl⟩
  have hs : s.size ≤ 1048576 := by omega
  have Hall : Hid (allS s.data.toList = allFrom s.data.toList 0 []) := by
    show _ = _
    rw [allS, if_neg (by rw [data_len]; exact h0)]
  have HW := Lib.hid hW
  clear hW
  go_enter Tryd.func15, Tryd.ntmps15
  go_wp2
  go_step3
  go_wp2
  go_step3
  go_wp2
  go_loopw [5, 6] (fun v5 v6 wr => ∃ (k : Nat) (acc : List Tok), k ≤ s.size ∧ v6 = .int .i64 k ∧ acc.length ≤ k ∧ OwnT (behind w) wr v5 acc ∧ Fr (behind w) w wr ∧ allS s.data.toList = allFrom (s.data.toList.drop k) k acc) (fun _ i _ => s.size - (intOf i).toNat)
  case atStart => exact ⟨0, [], by omega, rfl, by simp, OwnR.nil _ _ _ _, Fr.refl _ _, by rw [Hall.out]; rfl⟩
  case round =>
    obtain ⟨k, acc, hk, rfl, hacc, hO, hF, hall⟩ := hrel
    have HO := Lib.hid hO
    have HF := Lib.hid hF
    have HA := Lib.hid hall
    have HWr : Hid (LexW wr) := HW.out.below (hF.to_below fun j hj => by simp [behind]; omega)
    clear hO hF hall
    have htr : ∀ W : World, Calls Tryd.prog 34 #[.string (s.extract k s.size), .string ⟨#[32, 9, 10, 13]⟩] W fun e w' => e = .returned (.string ⟨(Lib.trimLeftS (s.data.toList.drop k) [32, 9, 10, 13]).toArray⟩) ∧ Below W.heap.size W w' := by
      intro W
      have h := Tryd.strings_TrimLeft (s.extract k s.size) ⟨#[32, 9, 10, 13]⟩ W (by decide) (by
        intro j b h
        have hm := List.mem_of_getElem? h
        have key : ∀ x ∈ ([32, 9, 10, 13] : List UInt8), x.toNat < 128 := by decide
        exact key b hm)
      rw [ext_drop] at h
      exact h
    have htd := trim_drop (s.data.toList.drop k)
    have hsk := skip_trim (s.data.toList.drop k)
    have hth := trim_head (s.data.toList.drop k)
    rw [List.length_drop, data_len, List.drop_drop] at htd
    generalize Lib.trimLeftS (s.data.toList.drop k) [32, 9, 10, 13] = R at *
    have hRz := ba_size R
    have hwr : IntKind.i64.wrap ((s.size : Int) - (R.length : Int)) = (s.size : Int) - (R.length : Int) := i64_in _ (by omega)
    by_cases hR : R = []
    · subst hR
      have Hres := Lib.hid (allFrom_end (s.data.toList.drop k) k acc hsk)
      clear hsk hth htd
      go_wp2_with (first
        | (go_at_call 34; refine (htr _).mono ?_; rintro e w1 ⟨rfl, hb1⟩)
        | (at_builtin; refine wpT_append _ ⟨0, [], 0, s.size⟩ (.tmp 61) (.tmp 65) rfl rfl _ rfl 1 rfl rfl (OwnR.below HO.out hb1) (HF.out.below hb1) (by omega) (fun j h => Nat.le_trans (HF.out.below hb1).size h) ?_; intro v1 w2 hO1 hF1; obtain ⟨g, n, cap, rfl, hcap, hmx⟩ := OwnT.form hO1 (by simp); have HO1 := Lib.hid hO1; clear HO HF hO1)
        | (go_at_call 38; refine (clip_call _ _ _ hcap hmx _).mono ?_; rintro e w3 ⟨rfl, rfl⟩))
      try rw [Exit.noGoto_ret]
      go_ret3
      rw [HA.out, Hres.out, List.length_drop, data_len, show k + (s.size - k) = s.size by omega]
      exact ⟨hF1.to_below fun j hj => by simp [behind]; omega, g, n, rfl, (RdT.clip (OwnT.rd HO1.out)).2⟩
    have hRp : 0 < R.length := List.length_pos_iff.2 hR
    have hk1 : k + (s.size - k - R.length) = s.size - R.length := by omega
    have hem : R.isEmpty = false := by simpa using hR
    by_cases hpre : Lib.hasPrefix R [47, 47] = true
    · have hns := note_skip hpre
      have hL : (R.takeWhile (fun c => c != 10)).length ≤ R.length := (List.takeWhile_sublist _).length_le
      have hcut := cut_call R (by omega)
      generalize R.takeWhile (fun c => c != 10) = L at *
      have hLz := ba_size L
      have hd2 := congrArg (List.drop L.length) htd.1
      rw [hk1, List.drop_drop] at hd2
      have Hres := Lib.hid (allFrom_same (a := s.data.toList.drop k) (b := s.data.toList.drop (s.size - R.length + L.length)) (p := k) (q := s.size - R.length + L.length) (acc := acc) (by rw [hsk, hns.1, hd2]) (by rw [List.length_drop, List.length_drop, data_len]; omega))
      have hLp := hns.2
      have hRl := htd.2
      clear hsk hth htd hns hd2 hR
      go_wp2_with (first
        | (go_at_call 34; refine (htr _).mono ?_; rintro e w1 ⟨rfl, hb1⟩)
        | (go_at_call 35; refine (hp_call _ _).mono ?_; rintro e w' ⟨rfl, rfl⟩)
        | (go_at_call 36; refine (hcut _ (HWr.out.below hb1)).mono ?_; rintro e w2 ⟨b, c, rfl, hb2⟩))
      exact ⟨⟨s.size - R.length + L.length, acc, by omega, congrArg (Value.int .i64) (by omega), by omega, OwnR.below (OwnR.below HO.out hb1) hb2, (HF.out.below hb1).below hb2, by rw [HA.out, Hres.out]⟩, by simp [intOf]; omega⟩
    · have hpre' : Lib.hasPrefix R [47, 47] = false := by simpa using hpre
      have hhd : skip false R = R := by
        cases hRR : R with
        | nil => exact absurd hRR hR
        | cons c r => exact head_skip (hth c r hRR) (by rw [← hRR]; exact hpre')
      have hd2 := htd.1
      rw [hk1] at hd2
      have hsame := allFrom_same (a := s.data.toList.drop k) (b := R) (p := k) (q := s.size - R.length) (acc := acc) hsk (by rw [List.length_drop, data_len]; omega)
      have htok := fun W hW => lex_token ⟨R.toArray⟩ W (by rw [hRz]; omega) (by rw [hRz]; exact hRp) hW
      replace htok : ∀ W : World, LexW W → Calls Tryd.prog 37 #[.string ⟨R.toArray⟩] W fun e w' => e = tokL (tokS R) ∧ Below W.heap.size W w' := htok
      have hRl := htd.2
      rcases hT : tokS R with e | ⟨kd, t, n, m⟩
      · have he := tokS_err hT
        have Hres := Lib.hid (hsame.trans (allFrom_err hR hhd hT))
        rw [hT] at htok
        replace htok : ∀ W : World, LexW W → Calls Tryd.prog 37 #[.string ⟨R.toArray⟩] W fun e' w' => e' = .returned (.tuple #[tokV 0 [] 0 0, .int .i64 0, .int .i64 (e : Int)]) ∧ Below W.heap.size W w' := htok
        have hez : ((e : Int) != 0) = true := by simp; omega
        clear hsk hth htd hd2 hR hT hhd hsame hpre
        go_wp2_with (first
          | (go_at_call 34; refine (htr _).mono ?_; rintro e' w1 ⟨rfl, hb1⟩)
          | (go_at_call 35; refine (hp_call _ _).mono ?_; rintro e' w' ⟨rfl, rfl⟩)
          | (go_at_call 37; refine (htok _ (HWr.out.below hb1)).mono ?_; rintro e' w2 ⟨rfl, hb2⟩))
        rw [Exit.noGoto_ret]
        go_ret3
        rw [HA.out, Hres.out]
        refine ⟨(((HF.out.below hb1).below hb2).alloc _).to_below fun j hj => by simp [behind]; omega, ?_⟩
        show Ending.returned (.tuple #[.slice none 0 0, .int .i64 ((s.size : Int) - (R.length : Int)), .int .i64 (e : Int)]) = _
        rw [show ((s.size - R.length : Nat) : Int) = (s.size : Int) - (R.length : Int) by omega]
      · have hm := tokS_len hR hT
        have Hres := Lib.hid (hsame.trans (allFrom_tok hR hhd hT))
        rw [hT] at htok
        replace htok : ∀ W : World, LexW W → Calls Tryd.prog 37 #[.string ⟨R.toArray⟩] W fun e' w' => e' = .returned (.tuple #[tokV kd t n 0, .int .i64 (m : Int), .int .i64 0]) ∧ Below W.heap.size W w' := htok
        have hd3 := congrArg (List.drop m) hd2
        rw [List.drop_drop] at hd3
        have Hd3 := Lib.hid hd3
        clear hsk hth htd hd2 hR hT hhd hsame hpre hd3
        go_wp2_with (first
          | (go_at_call 34; refine (htr _).mono ?_; rintro e' w1 ⟨rfl, hb1⟩)
          | (go_at_call 35; refine (hp_call _ _).mono ?_; rintro e' w' ⟨rfl, rfl⟩)
          | (go_at_call 37; refine (htok _ (HWr.out.below hb1)).mono ?_; rintro e' w2 ⟨rfl, hb2⟩)
          | (at_builtin; refine wpT_append _ ⟨kd, t, n, s.size - R.length⟩ (.tmp 54) (.tmp 56) rfl rfl _ ?hcc 1 rfl (by rw [World.size_alloc]; rfl) (OwnR.alloc (OwnR.below (OwnR.below HO.out hb1) hb2) _) (((HF.out.below hb1).below hb2).alloc _) (by omega) (fun j h => Nat.le_trans (((HF.out.below hb1).below hb2).alloc _).size h) ?_; (case hcc => simp [tcells]; omega); intro v1 w3 hO1 hF1; clear HO HF))
        exact ⟨⟨s.size - R.length + m, acc ++ [⟨kd, t, n, s.size - R.length⟩], by omega, congrArg (Value.int .i64) (by omega), by simp; omega, hO1, hF1, by rw [HA.out, Hres.out, Hd3.out]⟩, by simp [intOf]; omega⟩
end Go.Proofs.YtgnoiliaidfepaaDoor
