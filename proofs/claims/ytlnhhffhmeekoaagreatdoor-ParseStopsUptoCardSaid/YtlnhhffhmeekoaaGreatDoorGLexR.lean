/- Contracts of the reference's hex, piece and quoted: they say the same words as lex.escaped and lex.quoted. Contracts of the reference's word (at a place), number, sign and blanks. Contracts of the reference's sign and blanks. Contracts of the reference's token and All. -/
import Derived.Test.YtlnhhffhmeekoaaGreatDoorGLexA
set_option linter.unusedVariables false
set_option linter.unusedSimpArgs false
namespace Go.Proofs.YtlnhhffhmeekoaaGreatDoor
open Go.RowKit

theorem hexd_index (k : Nat) (h : k < 16) (W : World) : (Instr.index 9 (.string ⟨#[48, 49, 50, 51, 52, 53, 54, 55, 56, 57, 97, 98, 99, 100, 101, 102]⟩) (.int .i64 (k : Int))).run Tryz.prog W = .ok (.int .u8 (hexd k).toNat) W := by
  have h := sB_index ⟨#[48, 49, 50, 51, 52, 53, 54, 55, 56, 57, 97, 98, 99, 100, 101, 102]⟩ k h W
  exact h
theorem hexd_hit (c : UInt8) (k : Nat) (h : k < 16) (e : (hexd k).toNat = c.toNat) : hexI c = (k : Int) := by
  have key : ∀ (c : Fin 256) (k : Fin 16), (hexd k.val).toNat = c.val → hexI (UInt8.ofNat c.val) = (k.val : Int) := by decide +kernel
  have := key ⟨c.toNat, c.toNat_lt⟩ ⟨k, h⟩ e
  simpa using this
theorem hexd_miss (c : UInt8) (h : ∀ k, k < 16 → (hexd k).toNat ≠ c.toNat) : hexI c = -1 := by
  have key : ∀ c : Fin 256, (∀ k : Fin 16, (hexd k.val).toNat ≠ c.val) → hexI (UInt8.ofNat c.val) = -1 := by decide +kernel
  have := key ⟨c.toNat, c.toNat_lt⟩ fun k => h k.val k.isLt
  simpa using this

theorem ref_hex (c : UInt8) (w : World) :
    Calls Tryz.prog 208 #[.int .u8 c.toNat] w fun e w' => e = .returned (.int .i64 (hexI c)) ∧ w = w' := by
  have hc : c.toNat < 256 := c.toNat_lt
  go_enter Tryz.func208, Tryz.ntmps208
  go_wp2
  go_loop [4] (fun i => ∃ k : Nat, k ≤ 16 ∧ i = .int .i64 k ∧ ∀ j, j < k → (hexd j).toNat ≠ c.toNat) (fun i => 16 - (intOf i).toNat)
  case atStart => exact ⟨0, by omega, rfl, fun j hj => by omega⟩
  case round =>
    obtain ⟨k, hk, rfl, hr⟩ := hrel
    have Hr := Lib.hid hr
    clear hr
    by_cases hlt : k < 16
    · have hix := hexd_index k hlt
      by_cases he : (hexd k).toNat = c.toNat
      · have hh := hexd_hit c k hlt he
        have Hh := Lib.hid hh
        rw [he] at hix
        clear hh he
        go_wp2
        go_ret
        exact ⟨ret_int Hh.out.symm, rfl⟩
      · have hne : (((hexd k).toNat : Int) == (c.toNat : Int)) = false := by simp; omega
        have hlt2 : (hexd k).toNat < 256 := (hexd k).toNat_lt
        have Hne := Lib.hid he
        clear he
        go_wp2
        go_round
        case rel => exact ⟨k + 1, by omega, by go_num, fun j hj => by
          by_cases e : j = k
          · rw [e]; exact Hne.out
          · exact Hr.out j (by omega)⟩
        case measure => simp [intOf]; omega
    · go_wp2
      go_ret
      exact ⟨ret_int (hexd_miss c fun j hj => Hr.out j (by omega)).symm, rfl⟩

theorem escS_bad {d : UInt8} {r : List UInt8} (h1 : d.toNat ≠ 34) (h2 : d.toNat ≠ 92) (h3 : d.toNat ≠ 120) : escS (d :: r) = none := by simp [escS, h1, h2, h3]
set_option maxRecDepth 20000 in
set_option maxHeartbeats 1000000 in
theorem ref_piece (s : ByteArray) (k : Nat) (w : World) (hs : s.size ≤ 1048576) (hk : k < s.size) :
    Calls Tryz.prog 171 #[.string s, .int .i64 k] w fun e w' => e = escV (pieceS (s.data.toList.drop k)) ∧ w = w' := by
  have hix := sB_index s k hk
  have hd := sB_drop s k hk
  generalize sB s k = c at hix hd
  have hc : c.toNat < 256 := c.toNat_lt
  have Hd := Lib.hid hd
  clear hd
  by_cases q1 : c.toNat < 32
  · have H := Lib.hid (show pieceS (c :: List.drop (k + 1) s.data.toList) = none by simp [pieceS, q1])
    go_enter Tryz.func171, Tryz.ntmps171
    go_wp2
    go_ret2
    rw [Hd.out, H.out]
    exact ⟨rfl, rfl⟩
  by_cases q2 : 126 < c.toNat
  · have H := Lib.hid (show pieceS (c :: List.drop (k + 1) s.data.toList) = none by simp [pieceS, q2])
    go_enter Tryz.func171, Tryz.ntmps171
    go_wp2
    go_ret2
    rw [Hd.out, H.out]
    exact ⟨rfl, rfl⟩
  by_cases q3 : c.toNat = 34
  · have H := Lib.hid (show pieceS (c :: List.drop (k + 1) s.data.toList) = none by simp [pieceS, q3])
    have q3' : ((c.toNat : Int) == 34) = true := by simp [q3]
    go_enter Tryz.func171, Tryz.ntmps171
    go_wp2
    go_ret2
    rw [Hd.out, H.out]
    exact ⟨rfl, rfl⟩
  have q3' : ((c.toNat : Int) == 34) = false := by simp; omega
  by_cases q4 : c.toNat ≠ 92
  · have H := Lib.hid (show pieceS (c :: List.drop (k + 1) s.data.toList) = some (c, 1) by simp [pieceS, q1, q2, q3, q4])
    have q4' : ((c.toNat : Int) == 92) = false := by simp; omega
    go_enter Tryz.func171, Tryz.ntmps171
    go_wp2
    go_ret2
    rw [Hd.out, H.out]
    exact ⟨rfl, rfl⟩
  have q4 : c.toNat = 92 := by omega
  have q4' : ((c.toNat : Int) == 92) = true := by simp [q4]
  have HE := Lib.hid (show pieceS (c :: List.drop (k + 1) s.data.toList) = escS (List.drop (k + 1) s.data.toList) by simp [pieceS, q4])
  by_cases r1 : k + 1 < s.size
  · have hix1 := sB_lit s ((k : Int) + 1) (k + 1) (by omega) r1
    have hd1 := sB_drop s (k + 1) r1
    generalize sB s (k + 1) = d at hix1 hd1
    have hdl : d.toNat < 256 := d.toNat_lt
    have Hd1 := Lib.hid hd1
    clear hd1
    by_cases q5 : d.toNat = 34
    · have H := Lib.hid (show escS (d :: List.drop (k + 1 + 1) s.data.toList) = some (d, 2) by simp [escS, q5])
      have q5' : ((d.toNat : Int) == 34) = true := by simp [q5]
      clear q1 q2 q3
      go_enter Tryz.func171, Tryz.ntmps171
      go_wp2
      go_ret2
      rw [Hd.out, HE.out, Hd1.out, H.out]
      exact ⟨by simp [escV, q5], rfl⟩
    have q5' : ((d.toNat : Int) == 34) = false := by simp; omega
    by_cases q6 : d.toNat = 92
    · have H := Lib.hid (show escS (d :: List.drop (k + 1 + 1) s.data.toList) = some (d, 2) by simp [escS, q6])
      have q6' : ((d.toNat : Int) == 92) = true := by simp [q6]
      clear q1 q2 q3
      go_enter Tryz.func171, Tryz.ntmps171
      go_wp2
      go_ret2
      rw [Hd.out, HE.out, Hd1.out, H.out]
      exact ⟨by simp [escV, q6], rfl⟩
    have q6' : ((d.toNat : Int) == 92) = false := by simp; omega
    by_cases q7 : d.toNat = 120
    · have q7' : ((d.toNat : Int) == 120) = true := by simp [q7]
      by_cases r3 : k + 3 < s.size
      · have hix2 := sB_lit s ((k : Int) + 2) (k + 2) (by omega) (by omega)
        have hix3 := sB_lit s ((k : Int) + 3) (k + 3) (by omega) r3
        have hd2 := sB_drop s (k + 2) (by omega)
        have hd3 := sB_drop s (k + 3) r3
        generalize sB s (k + 2) = x at hix2 hd2
        generalize sB s (k + 3) = y at hix3 hd3
        have hx : x.toNat < 256 := x.toNat_lt
        have hy : y.toNat < 256 := y.toNat_lt
        have He : Hid (escS (d :: List.drop (k + 1 + 1) s.data.toList) = match hexv x, hexv y with | some a, some b => some (UInt8.ofNat (16 * a + b), 4) | _, _ => none) := by
          show _ = _
          rw [show k + 1 + 1 = k + 2 from rfl, hd2, show k + 2 + 1 = k + 3 from rfl, hd3]
          rw [escS, if_neg (by omega), if_pos q7]
          cases hexv x <;> cases hexv y <;> rfl
        clear hd2 hd3 q1 q2 q3 q5 q6
        rcases hexI_cases x with ⟨e1, i1⟩ | ⟨a, ha, e1, i1⟩
        · have Hx := Lib.hid e1
          clear e1
          have hm := fun n : Nat => (show (16 : Int) * (-1) = -16 from rfl)
          go_enter Tryz.func171, Tryz.ntmps171
          go_wp2_with (go_at_call 208; refine (ref_hex _ _).mono ?_; rintro e w' ⟨rfl, rfl⟩)
          go_ret2
          rw [Hd.out, HE.out, Hd1.out, He.out, Hx.out]
          exact ⟨rfl, rfl⟩
        rcases hexI_cases y with ⟨e2, i2⟩ | ⟨b, hb, e2, i2⟩
        · have Hx := Lib.hid e1
          have Hy := Lib.hid e2
          clear e1 e2
          go_enter Tryz.func171, Tryz.ntmps171
          go_wp2_with (go_at_call 208; refine (ref_hex _ _).mono ?_; rintro e w' ⟨rfl, rfl⟩)
          go_ret2
          rw [Hd.out, HE.out, Hd1.out, He.out, Hx.out, Hy.out]
          exact ⟨rfl, rfl⟩
        have Hx := Lib.hid e1
        have Hy := Lib.hid e2
        clear e1 e2
        go_enter Tryz.func171, Tryz.ntmps171
        go_wp2_with (go_at_call 208; refine (ref_hex _ _).mono ?_; rintro e w' ⟨rfl, rfl⟩)
        go_ret2
        rw [Hd.out, HE.out, Hd1.out, He.out, Hx.out, Hy.out]
        have hu : (UInt8.ofNat (16 * a + b)).toNat = 16 * a + b := by simp; omega
        refine ⟨?_, rfl⟩
        simp only [escV, hu]
        simp
      · have H := Lib.hid (show escS (d :: List.drop (k + 1 + 1) s.data.toList) = none by
          have hl : (List.drop (k + 1 + 1) s.data.toList).length < 2 := by rw [List.length_drop, data_len]; omega
          generalize List.drop (k + 1 + 1) s.data.toList = L at hl ⊢
          rcases L with _ | ⟨x, _ | ⟨y, r⟩⟩
          · simp [escS, q7]
          · simp [escS, q7]
          · exfalso; simp at hl; omega)
        clear q1 q2 q3 q5 q6
        go_enter Tryz.func171, Tryz.ntmps171
        go_wp2
        go_ret2
        rw [Hd.out, HE.out, Hd1.out, H.out]
        exact ⟨rfl, rfl⟩
    have q7' : ((d.toNat : Int) == 120) = false := by simp; omega
    have H := Lib.hid (escS_bad (r := List.drop (k + 1 + 1) s.data.toList) q5 q6 q7)
    clear q1 q2 q3
    by_cases r3 : k + 3 < s.size
    · go_enter Tryz.func171, Tryz.ntmps171
      go_wp2
      go_ret2
      rw [Hd.out, HE.out, Hd1.out, H.out]
      exact ⟨rfl, rfl⟩
    · go_enter Tryz.func171, Tryz.ntmps171
      go_wp2
      go_ret2
      rw [Hd.out, HE.out, Hd1.out, H.out]
      exact ⟨rfl, rfl⟩
  · have H := Lib.hid (show escS (List.drop (k + 1) s.data.toList) = none by rw [drop_none s (k + 1) (by omega)]; rfl)
    clear q1 q2 q3
    go_enter Tryz.func171, Tryz.ntmps171
    go_wp2
    go_ret2
    rw [Hd.out, HE.out, H.out]
    exact ⟨rfl, rfl⟩
def quoT (n : Nat) (o : Option (List UInt8 × List UInt8)) : Ending := match o with
  | some (b, r) => .returned (.tuple #[.string ⟨b.toArray⟩, .int .i64 ((n - r.length : Nat) : Int), .bool true])
  | none => .returned (.tuple #[.string ⟨#[]⟩, .int .i64 0, .bool false])
theorem quoS_full {l acc : List UInt8} (h : 2047 < acc.length) (hl : ∀ c r, l = c :: r → c.toNat ≠ 34) : quoS l acc = none := by
  cases l with
  | nil => rfl
  | cons c r => exact quoS_long (hl c r rfl) (by omega)

set_option maxRecDepth 20000 in
set_option maxHeartbeats 1000000 in
theorem ref_quoted (s : ByteArray) (p : Nat) (w : World) (hs : s.size ≤ 1048576) (hp : p < s.size) :
    Calls Tryz.prog 120 #[.string s, .int .i64 p] w fun e w' => e = quoT s.size (quoS (s.data.toList.drop (p + 1)) []) ∧ Below w.heap.size w w' := by
  go_enter Tryz.func120, Tryz.ntmps120
  go_wp2
  go_loopw [1, 7] (fun v1 v7 wr => ∃ (k : Nat) (acc : List UInt8), k ≤ s.size ∧ 1 ≤ k ∧ v1 = .int .i64 k ∧ acc.length ≤ 2048 ∧ OwnB (behind w) wr v7 acc ∧ Fr (behind w) w wr ∧ (acc.length ≤ 2047 → quoS (s.data.toList.drop (p + 1)) [] = quoS (s.data.toList.drop k) acc) ∧ (2047 < acc.length → quoS (s.data.toList.drop (p + 1)) [] = none)) (fun i _ _ => s.size - (intOf i).toNat)
  case atStart => exact ⟨p + 1, [], hp, by omega, by go_num, by simp, OwnR.nil _ _ _ _, Fr.refl _ _, fun _ => rfl, fun h => by simp at h⟩
  case round =>
    obtain ⟨k, acc, hk, hk1, rfl, hacc, hO, hF, hq, hq2⟩ := hrel
    obtain ⟨A, cap, rfl, hcap⟩ := hO.slice
    have HO := Lib.hid hO
    have HF := Lib.hid hF
    have Hq := Lib.hid hq
    have Hq2 := Lib.hid hq2
    clear hO hF hq hq2
    by_cases hlt : k < s.size
    · have hix := sB_index s k hlt
      have hd := sB_drop s k hlt
      have hpc := fun W => ref_piece s k W hs hlt
      rw [hd] at hpc
      generalize sB s k = c at hix hd hpc
      have hc : c.toNat < 256 := c.toNat_lt
      have Hd := Lib.hid hd
      clear hd
      by_cases q1 : c.toNat = 34
      · have q1' : ((c.toNat : Int) == 34) = true := by simp [q1]
        have hstr := HO.out.toStr
        by_cases q2 : acc.length ≤ 2047
        · go_wp2
          go_ret3
          refine ⟨?_, HF.out.to_below fun j hj => by simp [behind]; omega⟩
          show Ending.returned (.tuple #[.string ⟨acc.toArray⟩, .int .i64 ((k : Int) + 1), .bool true]) = _
          rw [Hq.out q2, Hd.out, quoS_end q1]
          have hl := data_len s
          simp only [quoT, List.length_drop, hl]
          rw [show ((s.size - (s.size - (k + 1)) : Nat) : Int) = (k : Int) + 1 from by omega]
        · go_wp2
          go_ret3
          refine ⟨?_, HF.out.to_below fun j hj => by simp [behind]; omega⟩
          rw [Hq2.out (by omega)]
          rfl
      have q1' : ((c.toNat : Int) == 34) = false := by simp; omega
      have q1'' : ((c.toNat : Int) != 34) = true := by simp; omega
      by_cases q4 : acc.length = 2048
      · go_wp2
        go_ret3
        refine ⟨?_, HF.out.to_below fun j hj => by simp [behind]; omega⟩
        rw [Hq2.out (by omega)]
        rfl
      rcases he : pieceS (c :: List.drop (k + 1) s.data.toList) with _ | ⟨b, n⟩
      · have hn : quoS (c :: List.drop (k + 1) s.data.toList) acc = none := quoS_bad q1 he
        have Hn := Lib.hid hn
        rw [he] at hpc
        replace hpc : ∀ W : World, Calls Tryz.prog 171 #[.string s, .int .i64 k] W fun e w' => e = .returned (.tuple #[.int .u8 0, .int .i64 0]) ∧ W = w' := hpc
        clear he hn
        go_wp2_with (go_at_call 171; refine (hpc _).mono ?_; rintro e w1 ⟨rfl, rfl⟩)
        go_ret3
        refine ⟨?_, HF.out.to_below fun j hj => by simp [behind]; omega⟩
        rw [Hq.out (by omega), Hd.out, Hn.out]
        rfl
      · have hpos := pieceS_pos he
        have hk' : k + n ≤ s.size := by
          have := hpos.2
          simp only [List.length_cons, List.length_drop, data_len] at this
          omega
        have hn0 : 0 < n := hpos.1
        have hdd : (c :: List.drop (k + 1) s.data.toList).drop n = s.data.toList.drop (k + n) := by rw [← Hd.out, List.drop_drop]
        have hn : acc.length < 2047 → quoS (c :: List.drop (k + 1) s.data.toList) acc = quoS (s.data.toList.drop (k + n)) (acc ++ [b]) := fun h => by rw [← hdd]; exact quoS_step q1 h he
        have hn2 : 2047 ≤ acc.length → quoS (c :: List.drop (k + 1) s.data.toList) acc = none := fun h => quoS_long q1 h
        have Hn := Lib.hid hn
        have Hn2 := Lib.hid hn2
        rw [he] at hpc
        replace hpc : ∀ W : World, Calls Tryz.prog 171 #[.string s, .int .i64 k] W fun e w' => e = .returned (.tuple #[.int .u8 b.toNat, .int .i64 n]) ∧ W = w' := hpc
        clear he hn hn2 hpos hdd
        have hbb : b.toNat < 256 := b.toNat_lt
        have hz : ((n : Int) == 0) = false := by simp; omega
        go_wp2_with (first
          | (go_at_call 171; refine (hpc _).mono ?_; rintro e w1 ⟨rfl, rfl⟩)
          | (at_builtin; refine wpB_append _ [b] (.tmp 35) (.tmp 37) rfl rfl _ rfl 1 1 rfl rfl rfl HO.out HF.out (by simp; omega) (fun k h => Nat.le_trans HF.out.size h) ?_; intro v1 w2 hO1 hF1; clear HO HF))
        exact ⟨⟨k + n, acc ++ [b], hk', by omega, by go_num, by simp; omega, hO1, hF1, fun h => by rw [Hq.out (by omega), Hd.out, Hn.out (by simp at h; omega)], fun h => by rw [Hq.out (by omega), Hd.out, Hn2.out (by simp at h; omega)]⟩, by simp [intOf]; omega⟩
    · have hn : quoS (s.data.toList.drop k) acc = none := by rw [drop_none s k (by omega)]; rfl
      have Hn := Lib.hid hn
      clear hn
      go_wp2
      go_ret3
      refine ⟨?_, HF.out.to_below fun j hj => by simp [behind]; omega⟩
      by_cases q2 : acc.length ≤ 2047
      · rw [Hq.out q2, Hn.out]; rfl
      · rw [Hq2.out (by omega)]; rfl
end Go.Proofs.YtlnhhffhmeekoaaGreatDoor
namespace Go.Proofs.YtlnhhffhmeekoaaGreatDoor
open Go.RowKit

theorem wordLen_drop (s : ByteArray) (p k : Nat) (hp : p + k < s.size) (h : k ≤ wordLen (s.data.toList.drop p)) :
    (isWord (sB s (p + k)) = true → k + 1 ≤ wordLen (s.data.toList.drop p)) ∧ (isWord (sB s (p + k)) = false → wordLen (s.data.toList.drop p) = k) := by
  have hl : k < (s.data.toList.drop p).length := by rw [List.length_drop, data_len]; omega
  have e : (s.data.toList.drop p)[k]'hl = sB s (p + k) := by
    rw [List.getElem_drop, sB, List.getD_eq_getElem?_getD, List.getElem?_eq_getElem (by rw [data_len]; exact hp), Option.getD_some]
  have := wordLen_step (s.data.toList.drop p) k h hl
  rw [e] at this
  exact this

theorem ref_wordAt (s : ByteArray) (p : Nat) (w : World) (hs : s.size ≤ 1048576) (hp : p ≤ s.size) :
    Calls Tryz.prog 114 #[.string s, .int .i64 p] w fun e w' => e = .returned (.int .i64 (wordLen (s.data.toList.drop p))) ∧ w = w' := by
  go_enter Tryz.func114, Tryz.ntmps114
  go_wp2
  go_loop [5] (fun i => ∃ k : Nat, p + k ≤ s.size ∧ i = .int .i64 k ∧ k ≤ wordLen (s.data.toList.drop p)) (fun i => s.size - (intOf i).toNat)
  case atStart => exact ⟨0, by omega, rfl, Nat.zero_le _⟩
  case round =>
    obtain ⟨k, hk, rfl, hr⟩ := hrel
    by_cases hlt : p + k < s.size
    · have hs1 := wordLen_drop s p k hlt hr
      have hix := sB_lit s ((p : Int) + (k : Int)) (p + k) (by omega) hlt
      generalize sB s (p + k) = c at hs1 hix
      have hc : c.toNat < 256 := c.toNat_lt
      have Hs1 := Lib.hid hs1
      clear hs1
      have Hr := Lib.hid hr
      clear hr
      go_wp2_with (first
        | (go_at_call 115; refine (ref_letter _ _).mono ?_; rintro e w' ⟨rfl, rfl⟩)
        | (go_at_call 116; refine (ref_digit _ _).mono ?_; rintro e w' ⟨rfl, rfl⟩))
      all_goals (have hs1 := Hs1.out)
      · have h : isLetter c.toNat = true := by assumption
        have h2 := hs1.1 (by rw [isWord, h]; rfl)
        exact ⟨⟨k + 1, by omega, by go_num, h2⟩, by simp [intOf]; omega⟩
      · have h : ¬ isLetter c.toNat = true := by assumption
        have h' : (!isDigit c.toNat) = true := by assumption
        have h2 := hs1.2 (by simp at h h'; rw [isWord, h, h']; rfl)
        go_ret
        exact ⟨ret_int (by rw [h2]), rfl⟩
      · have h' : (!isDigit c.toNat) = false := by assumption
        have h2 := hs1.1 (by simp at h'; rw [isWord, h']; simp)
        exact ⟨⟨k + 1, by omega, by go_num, h2⟩, by simp [intOf]; omega⟩
    · go_wp2
      go_ret
      have hl := wordLen_le (s.data.toList.drop p)
      rw [List.length_drop, data_len] at hl
      exact ⟨ret_int (by omega), rfl⟩

/-! numbers -/
theorem valS_snoc (l : List UInt8) (c : UInt8) : valS (l ++ [c]) = 10 * valS l + (c.toNat - 48) := by simp [valS]
theorem foldl_ge (l : List UInt8) (a : Nat) : a * 10 ^ l.length ≤ l.foldl (fun a c => 10 * a + (c.toNat - 48)) a := by
  induction l generalizing a with
  | nil => simp
  | cons c l ih =>
    simp only [List.foldl_cons, List.length_cons]
    refine Nat.le_trans ?_ (ih _)
    rw [Nat.pow_succ, Nat.mul_comm (10 ^ l.length) 10, ← Nat.mul_assoc]
    exact Nat.mul_le_mul_right _ (by omega)
theorem foldl_lt (l : List UInt8) (a b : Nat) (h : l.all digitB = true) (ha : a < b) : l.foldl (fun a c => 10 * a + (c.toNat - 48)) a < b * 10 ^ l.length := by
  induction l generalizing a b with
  | nil => simpa using ha
  | cons c l ih =>
    simp only [List.foldl_cons, List.length_cons]
    simp only [List.all_cons, Bool.and_eq_true] at h
    have hc : c.toNat ≤ 57 := by have := h.1; simp [digitB, isDigit] at this; omega
    have := ih (10 * a + (c.toNat - 48)) (10 * b) h.2 (by omega)
    rw [Nat.pow_succ, Nat.mul_comm (10 ^ l.length) 10, ← Nat.mul_assoc, Nat.mul_comm b 10]
    exact this
theorem valS_lt (l : List UInt8) (h : l.all digitB = true) : valS l < 10 ^ l.length := by
  have := foldl_lt l 0 1 h (by omega)
  simpa [valS] using this
theorem numS_long (l : List UInt8) (h : 19 < l.length) : numS l = none := by
  unfold numS
  rw [if_neg]
  rintro ⟨h1, h2, h3⟩
  cases l with
  | nil => simp at h
  | cons c l =>
    have hc : c ≠ 48 := by
      rcases h2 with h2 | h2
      · omega
      · simpa using h2
    simp only [List.all_cons, Bool.and_eq_true] at h1
    have hc2 : 49 ≤ c.toNat := by
      have h4 := h1.1
      simp [digitB, isDigit] at h4
      have : c.toNat ≠ 48 := fun e => hc (UInt8.toNat_inj.1 e)
      omega
    have h5 := foldl_ge l (10 * 0 + (c.toNat - 48))
    have h6 : valS (c :: l) = l.foldl (fun a c => 10 * a + (c.toNat - 48)) (10 * 0 + (c.toNat - 48)) := rfl
    rw [← h6] at h5
    have h7 : 10 ^ 19 ≤ 10 ^ l.length := Nat.pow_le_pow_right (by omega) (by simp at h; omega)
    have h8 : 1 * 10 ^ l.length ≤ (10 * 0 + (c.toNat - 48)) * 10 ^ l.length := Nat.mul_le_mul_right _ (by omega)
    have h9 : (10 : Nat) ^ 19 = 10000000000000000000 := by decide
    omega
theorem numS_zero {c : UInt8} {l : List UInt8} (h : c.toNat = 48) (hl : l ≠ []) : numS (c :: l) = none := by
  unfold numS
  rw [if_neg]
  rintro ⟨h1, h2, h3⟩
  have : c = 48 := UInt8.toNat_inj.1 h
  subst this
  cases l with
  | nil => exact hl rfl
  | cons a l => simp at h2
theorem numS_bad {l : List UInt8} {c : UInt8} (hc : c ∈ l) (h : isDigit c.toNat = false) : numS l = none := by
  unfold numS
  rw [if_neg]
  rintro ⟨h1, -, -⟩
  rw [List.all_eq_true] at h1
  have := h1 c hc
  simp [digitB, h] at this
theorem sB_mem (s : ByteArray) (k : Nat) (h : k < s.size) : sB s k ∈ s.data.toList := by
  have h' : k < s.data.toList.length := by rw [data_len]; exact h
  have e : sB s k = s.data.toList[k] := by simp [sB, List.getD_eq_getElem?_getD, List.getElem?_eq_getElem h']
  rw [e]; exact List.getElem_mem _
theorem sB_take (s : ByteArray) (k : Nat) (h : k < s.size) : s.data.toList.take (k + 1) = s.data.toList.take k ++ [sB s k] := by
  have h' : k < s.data.toList.length := by rw [data_len]; exact h
  have e : sB s k = s.data.toList[k] := by simp [sB, List.getD_eq_getElem?_getD, List.getElem?_eq_getElem h']
  rw [List.take_succ_eq_append_getElem h', e]

theorem numS_eq (s : ByteArray) (h : s.data.toList.all digitB = true) (hz : ¬ (1 < s.size ∧ (sB s 0).toNat = 48)) : numS s.data.toList = if valS s.data.toList < 9223372036854775808 then some (valS s.data.toList) else none := by
  have h2 : s.data.toList.length ≤ 1 ∨ s.data.toList.headD 0 ≠ 48 := by
    rw [data_len]
    by_cases h1 : 1 < s.size
    · right
      intro e
      apply hz
      refine ⟨h1, ?_⟩
      have hd := sB_drop s 0 (by omega)
      rw [List.drop_zero] at hd
      rw [hd] at e
      simp only [List.headD_cons] at e
      rw [e]; rfl
    · left; omega
  unfold numS
  by_cases hv : valS s.data.toList < 9223372036854775808
  · rw [if_pos ⟨h, h2, hv⟩, if_pos hv]
  · rw [if_neg (fun hh => hv hh.2.2), if_neg hv]
set_option maxHeartbeats 1000000 in
theorem ref_number (s : ByteArray) (w : World) (hs : s.size ≤ 1048576) :
    Calls Tryz.prog 119 #[.string s] w fun e w' => (∃ v : Int, e = .returned (.tuple #[.int .i64 v, .bool (numS s.data.toList).isSome]) ∧ ∀ u, numS s.data.toList = some u → v = (u : Int)) ∧ w = w' := by
  by_cases h19 : 19 < s.size
  · have H := Lib.hid (numS_long s.data.toList (by rw [data_len]; exact h19))
    go_enter Tryz.func119, Tryz.ntmps119
    go_wp2
    go_ret2
    rw [H.out]
    exact ⟨⟨0, rfl, by simp⟩, rfl⟩
  by_cases hz : 1 < s.size ∧ (sB s 0).toNat = 48
  · have H : Hid (numS s.data.toList = none) := by
      show numS s.data.toList = none
      have hd := sB_drop s 0 (by omega)
      rw [List.drop_zero] at hd
      rw [hd]
      refine numS_zero hz.2 ?_
      rw [sB_drop s 1 hz.1]; simp
    have hix := sB_lit s 0 0 rfl (by omega)
    obtain ⟨hz1, hz2⟩ := hz
    rw [hz2] at hix
    go_enter Tryz.func119, Tryz.ntmps119
    go_wp2
    go_ret2
    rw [H.out]
    exact ⟨⟨0, rfl, by simp⟩, rfl⟩
  have hx : (1 < s.size ∧ (∀ W : World, (Instr.index 9 (.string s) (.int .i64 0)).run Tryz.prog W = .ok (.int .u8 (sB s 0).toNat) W) ∧ (((sB s 0).toNat : Int) == 48) = false) ∨ ¬ 1 < s.size := by
    by_cases h : 1 < s.size
    · exact .inl ⟨h, sB_lit s 0 0 rfl (by omega), by simp; omega⟩
    · exact .inr h
  have Hz := Lib.hid hz
  clear hz
  go_enter Tryz.func119, Tryz.ntmps119
  rcases hx with ⟨h1, hix1, hne1⟩ | h1
  all_goals go_wp2
  all_goals (go_loop [4, 5] (fun v i => ∃ k : Nat, k ≤ s.size ∧ i = .int .i64 k ∧ v = .int .u64 (valS (s.data.toList.take k) : Nat) ∧ (s.data.toList.take k).all digitB = true) (fun _ i => s.size - (intOf i).toNat))
  case atStart => exact ⟨0, Nat.zero_le _, rfl, rfl, rfl⟩
  case atStart => exact ⟨0, Nat.zero_le _, rfl, rfl, rfl⟩
  all_goals (
    obtain ⟨k, hk, rfl, rfl, hall⟩ := hrel
    have hlt := valS_lt _ hall
    have hpw : 10 ^ (s.data.toList.take k).length ≤ 10 ^ 19 := Nat.pow_le_pow_right (by omega) (by rw [List.length_take, data_len]; omega)
    have hpw' : (10 : Nat) ^ 19 = 10000000000000000000 := by decide
    have hm : valS (s.data.toList.take k) < 10000000000000000000 := by omega
    by_cases hks : k < s.size
    · have hix := sB_index s k hks
      have htk := sB_take s k hks
      have hmem := sB_mem s k hks
      have hpw2 : 10 ^ (s.data.toList.take k).length ≤ 10 ^ 18 := Nat.pow_le_pow_right (by omega) (by rw [List.length_take, data_len]; omega)
      have hpw2' : (10 : Nat) ^ 18 = 1000000000000000000 := by decide
      have hm2 : valS (s.data.toList.take k) < 1000000000000000000 := by omega
      generalize sB s k = c at hix htk hmem
      have hc : c.toNat < 256 := c.toNat_lt
      have hvs : valS (s.data.toList.take (k + 1)) = 10 * valS (s.data.toList.take k) + (c.toNat - 48) := by rw [htk, valS_snoc]
      have hal2 : isDigit c.toNat = true → (s.data.toList.take (k + 1)).all digitB = true := fun h => by rw [htk, List.all_append, hall]; simp [digitB, h]
      have Hvs := Lib.hid hvs
      have Hal := Lib.hid hal2
      have Hall := Lib.hid hall
      have Hmem := Lib.hid hmem
      clear hlt hpw hpw' hpw2 hpw2' htk hvs hal2 hall hmem
      by_cases hdg : isDigit c.toNat = true
      · have hd2 : 48 ≤ c.toNat ∧ c.toNat ≤ 57 := by simp [isDigit] at hdg; omega
        generalize valS (s.data.toList.take k) = m at *
        go_wp2_with (go_at_call 116; refine (ref_digit _ _).mono ?_; rintro e w' ⟨rfl, rfl⟩)
        exact ⟨⟨k + 1, by omega, by go_num, congrArg (Value.int .u64) (by rw [Hvs.out]; omega), Hal.out hdg⟩, by simp [intOf]; omega⟩
      · have hdf : isDigit c.toNat = false := by simpa using hdg
        have hn := numS_bad Hmem.out hdf
        have Hn := Lib.hid hn
        clear hn
        go_wp2_with (go_at_call 116; refine (ref_digit _ _).mono ?_; rintro e w' ⟨rfl, rfl⟩)
        go_ret2
        rw [Hn.out]
        exact ⟨⟨0, rfl, by simp⟩, rfl⟩
    · have e : s.data.toList.take k = s.data.toList := List.take_of_length_le (by rw [data_len]; omega)
      rw [e] at hall hm ⊢
      have Hall := Lib.hid hall
      clear hlt hpw hpw' hall e
      have H : Hid (numS s.data.toList = if valS s.data.toList < 9223372036854775808 then some (valS s.data.toList) else none) := by
        exact numS_eq s Hall.out Hz.out
      generalize valS s.data.toList = m at *
      go_wp2
      go_ret2
      refine ⟨⟨wrap64 (m : Int), ?_, ?_⟩, rfl⟩
      · rw [H.out]
        by_cases hv : m < 9223372036854775808
        · have e1 : decide ((m : Int) ≤ 9223372036854775807) = true := by simp; omega
          rw [if_pos hv]
          simp [e1]
        · have e1 : decide ((m : Int) ≤ 9223372036854775807) = false := by simp; omega
          rw [if_neg hv]
          simp [e1]
      · intro u hu
        rw [H.out] at hu
        split at hu
        · injection hu with hu
          rw [← hu]
          unfold wrap64
          omega
        · cases hu)
end Go.Proofs.YtlnhhffhmeekoaaGreatDoor
namespace Go.Proofs.YtlnhhffhmeekoaaGreatDoor
open Go.RowKit Go.IntWalk

def signStrs : List ByteArray := [⟨#[61, 61]⟩, ⟨#[33, 61]⟩, ⟨#[60, 61]⟩, ⟨#[62, 61]⟩, ⟨#[38, 38]⟩, ⟨#[124, 124]⟩, ⟨#[40]⟩, ⟨#[41]⟩, ⟨#[123]⟩, ⟨#[125]⟩, ⟨#[91]⟩, ⟨#[93]⟩, ⟨#[44]⟩, ⟨#[59]⟩, ⟨#[58]⟩, ⟨#[46]⟩, ⟨#[61]⟩, ⟨#[60]⟩, ⟨#[62]⟩, ⟨#[43]⟩, ⟨#[45]⟩, ⟨#[42]⟩, ⟨#[47]⟩, ⟨#[37]⟩, ⟨#[33]⟩]
theorem ref_Signs (w : World) :
    Calls Tryz.prog 172 #[] w fun e w' => e = .returned (.slice (some ⟨w.heap.size, 0, none⟩) 25 25) ∧ Below w.heap.size w w' ∧ Strs w' (some ⟨w.heap.size, 0, none⟩) 25 signStrs := by
  go_enter Tryz.func172, Tryz.ntmps172
  go_wp2
  go_ret
  exact ⟨rfl, (Below.refl _ _).alloc (Nat.le_refl _) _, strs_lit w _ signStrs⟩

/-- the k-th sign stands at the text's head -/
def hits (l : List UInt8) (k : Nat) : Bool := l.take (sAt signStrs k).size == (sAt signStrs k).data.toList
theorem sign_hit (l : List UInt8) (k : Nat) (hk : k < 25) (h : hits l k = true) (hm : ∀ j, j < k → hits l j = false) : signS l = (sAt signStrs k).data.toList := by
  have e : ∀ j : Fin 6, (sAt signStrs j.val).data.toList = pairs.getD j.val [] ∧ (sAt signStrs j.val).size = 2 := by decide
  have e2 : ∀ j : Fin 19, (sAt signStrs (6 + j.val)).data.toList = [singles.getD j.val 0] ∧ (sAt signStrs (6 + j.val)).size = 1 := by decide
  simp only [hits, beq_iff_eq, beq_eq_false_iff_ne] at h hm
  unfold signS
  by_cases h6 : k < 6
  · have := e ⟨k, h6⟩
    simp only [] at this
    rw [this.2, this.1] at h
    rw [if_pos, h, this.1]
    rw [h, List.contains_iff_mem]
    have hp : ∀ j : Fin 6, pairs.getD j.val [] ∈ pairs := by decide
    exact hp ⟨k, h6⟩
  · have hno : pairs.contains (l.take 2) = false := by
      rw [Bool.eq_false_iff]
      intro hc
      rw [List.contains_iff_mem] at hc
      obtain ⟨j, hj, hje⟩ := List.mem_iff_getElem.1 hc
      have hj6 : j < 6 := hj
      have := e ⟨j, hj6⟩
      simp only [] at this
      refine hm j (by omega) ?_
      rw [this.2, this.1, ← hje]
      simp [List.getD_eq_getElem?_getD, List.getElem?_eq_getElem hj]
    have h19 : k - 6 < 19 := by omega
    have := e2 ⟨k - 6, h19⟩
    simp only [] at this
    rw [show 6 + (k - 6) = k by omega] at this
    rw [this.2, this.1] at h
    rw [if_neg (by simp [hno]; simpa using hno), if_pos, h, this.1]
    cases l with
    | nil => simp at h
    | cons c l =>
      simp at h
      have hp : ∀ j : Fin 19, singles.getD j.val 0 ∈ singles := by decide
      rw [List.headD_cons, h, List.contains_iff_mem]
      simpa using hp ⟨k - 6, h19⟩
theorem sign_miss (l : List UInt8) (hm : ∀ j, j < 25 → hits l j = false) : signS l = [] := by
  have e : ∀ j : Fin 6, (sAt signStrs j.val).data.toList = pairs.getD j.val [] ∧ (sAt signStrs j.val).size = 2 := by decide
  have e2 : ∀ j : Fin 19, (sAt signStrs (6 + j.val)).data.toList = [singles.getD j.val 0] ∧ (sAt signStrs (6 + j.val)).size = 1 := by decide
  simp only [hits, beq_eq_false_iff_ne] at hm
  have hno : pairs.contains (l.take 2) = false := by
    rw [Bool.eq_false_iff]
    intro hc
    rw [List.contains_iff_mem] at hc
    obtain ⟨j, hj, hje⟩ := List.mem_iff_getElem.1 hc
    have hj6 : j < 6 := hj
    have := e ⟨j, hj6⟩
    simp only [] at this
    refine hm j (by omega) ?_
    rw [this.2, this.1, ← hje]
    simp [List.getD_eq_getElem?_getD, List.getElem?_eq_getElem hj]
  have hno2 : singles.contains (l.headD 0) = true → l = [] := by
    intro hc
    cases l with
    | nil => rfl
    | cons c l =>
      exfalso
      rw [List.headD_cons, List.contains_iff_mem] at hc
      obtain ⟨j, hj, hje⟩ := List.mem_iff_getElem.1 hc
      have hj6 : j < 19 := hj
      have := e2 ⟨j, hj6⟩
      simp only [] at this
      refine hm (6 + j) (by omega) ?_
      rw [this.2, this.1, ← hje]
      simp [List.getD_eq_getElem?_getD, List.getElem?_eq_getElem hj]
  unfold signS
  rw [if_neg (by rw [hno]; simp)]
  split
  · rw [hno2 ‹_›]; rfl
  · rfl
theorem ext_take (s : ByteArray) (p n : Nat) (h : p + n ≤ s.size) : (s.extract p (p + n)).toList = (s.data.toList.drop p).take n := by
  rw [ByteArray.toList_eq, ByteArray.data_extract, Array.toList_extract, List.extract_eq_take_drop]
  congr 1
  omega
theorem sAt_small (k : Nat) : (sAt signStrs k).size ≤ 2 := by
  by_cases h : k < 25
  · have key : ∀ k : Fin 25, (sAt signStrs k.val).size ≤ 2 := by decide
    exact key ⟨k, h⟩
  · have : sAt signStrs k = ⟨#[]⟩ := by
      rw [sAt, List.getD_eq_getElem?_getD, List.getElem?_eq_none (by simpa [signStrs] using (by omega : 25 ≤ k))]; rfl
    rw [this]; decide

set_option maxRecDepth 20000 in
set_option maxHeartbeats 1000000 in
theorem ref_sign (s : ByteArray) (p : Nat) (w : World) (hs : s.size ≤ 1048576) (hp : p ≤ s.size) :
    Calls Tryz.prog 121 #[.string s, .int .i64 p] w fun e w' => e = .returned (.string ⟨(signS (s.data.toList.drop p)).toArray⟩) ∧ Below w.heap.size w w' := by
  go_enter Tryz.func121, Tryz.ntmps121
  go_wp2_with (go_at_call 172; refine (ref_Signs _).mono ?_; rintro e w1 ⟨rfl, hb1, hx1⟩)
  have HX := Lib.hid hx1
  have HB := Lib.hid hb1
  clear hx1 hb1
  go_loopw [6] (fun i wr => ∃ k : Nat, k ≤ 25 ∧ i = .int .i64 k ∧ (∀ j, j < k → hits (s.data.toList.drop p) j = false) ∧ Below w.heap.size w wr ∧ Strs wr (some ⟨w.heap.size, 0, none⟩) 25 signStrs) (fun i _ => 25 - (intOf i).toNat)
  case atStart => exact ⟨0, by omega, rfl, fun j hj => by omega, HB.out, HX.out⟩
  case round =>
    obtain ⟨k, hk, rfl, hm, hb, hx⟩ := hrel
    have Hm := Lib.hid hm
    have Hb := Lib.hid hb
    have Hx := Lib.hid hx
    clear hm hb hx
    by_cases hlt : k < 25
    · obtain ⟨ad, had, hc⟩ := Hx.out.at_ k hlt
      obtain rfl := Option.some.inj had
      rw [add_zero_off] at hc
      clear had
      have hsm := sAt_small k
      have hlen : s.data.toList.length = s.size := data_len s
      have hd := sign_hit (s.data.toList.drop p) k hlt
      have Hd := Lib.hid hd
      have Hdd : Hid (hits (s.data.toList.drop p) k = (List.take (sAt signStrs k).size (s.data.toList.drop p) == (sAt signStrs k).data.toList)) := rfl
      clear hd
      generalize sAt signStrs k = S at *
      have hwr : IntKind.i64.wrap ((s.size : Int) - (p : Int)) = (s.size : Int) - (p : Int) := by exact i64_in _ (by omega)
      by_cases hr : S.size ≤ s.size - p
      · have hr' : decide ((S.size : Int) ≤ (s.size : Int) - (p : Int)) = true := by simp; omega
        have hw2 : IntKind.i64.wrap ((p : Int) + (S.size : Int)) = (p : Int) + (S.size : Int) := i64_in _ (by omega)
        have hb1 : (0 : Int) ≤ (p : Int) := by omega
        have hb2 : (p : Int) ≤ (p : Int) + (S.size : Int) := by omega
        have hb3 : (p : Int) + (S.size : Int) ≤ (s.size : Int) := by omega
        have he := ext_take s p S.size (by omega)
        have He := Lib.hid he
        clear he
        go_wp2
        go_region_held3 (fun w' => w'.cell? ⟨w.heap.size, k, none⟩ = some (.string S) ∧ Below w.heap.size w w' ∧ Strs w' (some ⟨w.heap.size, 0, none⟩) 25 signStrs) ((exact ⟨hc, Hb.out.drew, Hx.out⟩)) (fail)
        all_goals go_wp2
        · have h : ((s.extract p ((p : Int) + (S.size : Int)).toNat).toList == S.toList) = true := by assumption
          rw [show ((p : Int) + (S.size : Int)).toNat = p + S.size by omega, He.out, ByteArray.toList_eq] at h
          go_ret
          rw [Hd.out (Hdd.out.trans h) Hm.out]
          exact ⟨rfl, Hb.out.drew⟩
        · have h : ((s.extract p ((p : Int) + (S.size : Int)).toNat).toList == S.toList) = false := by assumption
          rw [show ((p : Int) + (S.size : Int)).toNat = p + S.size by omega, He.out, ByteArray.toList_eq] at h
          have h' := Hdd.out.trans h
          exact ⟨⟨k + 1, by omega, by go_num, fun j hj => by
            by_cases e : j = k
            · rw [e]; exact h'
            · exact Hm.out j (by omega), Hb.out.drew, Hx.out⟩, by simp [intOf]; omega⟩
      · have hr' : decide ((S.size : Int) ≤ (s.size : Int) - (p : Int)) = false := by simp; omega
        go_wp2
        go_region
        all_goals go_wp2
        have h' : hits (s.data.toList.drop p) k = false := by
          rw [Hdd.out, beq_eq_false_iff_ne]
          intro e
          have e2 := congrArg List.length e
          rw [List.length_take, List.length_drop, hlen, data_len] at e2
          omega
        exact ⟨⟨k + 1, by omega, by go_num, fun j hj => by
          by_cases e : j = k
          · rw [e]; exact h'
          · exact Hm.out j (by omega), Hb.out.drew, Hx.out⟩, by simp [intOf]; omega⟩
    · go_wp2
      go_ret
      rw [sign_miss _ fun j hj => Hm.out j (by omega)]
      exact ⟨rfl, Hb.out⟩

set_option maxHeartbeats 1000000 in
theorem ref_blanks (s : ByteArray) (p : Nat) (w : World) (hs : s.size ≤ 1048576) (hp : p ≤ s.size) :
    Calls Tryz.prog 64 #[.string s, .int .i64 p] w fun e w' => e = .returned (.int .i64 ((s.size - (skip false (s.data.toList.drop p)).length : Nat) : Int)) ∧ w = w' := by
  go_enter Tryz.func64, Tryz.ntmps64
  go_wp2
  go_loopw [1] (fun i wr => wr = w ∧ ∃ k : Nat, k ≤ s.size ∧ i = .int .i64 k ∧ skip false (s.data.toList.drop p) = skip false (s.data.toList.drop k)) (fun i _ => s.size - (intOf i).toNat)
  case atStart => exact ⟨rfl, p, hp, rfl, rfl⟩
  case round =>
    obtain ⟨rfl, k, hk, rfl, hsk⟩ := hrel
    have Hsk := Lib.hid hsk
    clear hsk
    by_cases hlt : k < s.size
    · have hix := sB_index s k hlt
      have hd := sB_drop s k hlt
      generalize sB s k = c at hix hd
      have hc : c.toNat < 256 := c.toNat_lt
      have Hd := Lib.hid hd
      clear hd
      by_cases hb : isBlank c = true
      · have hv : c.toNat = 32 ∨ c.toNat = 9 ∨ c.toNat = 10 ∨ c.toNat = 13 := by simpa [isBlank] using hb
        have Hst : Hid (skip false (c :: List.drop (k + 1) s.data.toList) = skip false (List.drop (k + 1) s.data.toList)) := by
          show _ = _
          simp [skip, hb]
        clear hb
        rcases hv with q | q | q | q
        all_goals (
          rw [q] at hix
          go_wp2
          exact ⟨⟨trivial, k + 1, by omega, by go_num, by rw [Hsk.out, Hd.out, Hst.out]⟩, by simp [intOf]; omega⟩)
      have hnb : c.toNat ≠ 32 ∧ c.toNat ≠ 9 ∧ c.toNat ≠ 10 ∧ c.toNat ≠ 13 := by simpa [isBlank] using hb
      by_cases q : c.toNat = 47
      · rw [q] at hix
        by_cases h1 : k + 1 < s.size
        · have hix1 := sB_lit s ((k : Int) + 1) (k + 1) (by omega) h1
          have hd1 := sB_drop s (k + 1) h1
          generalize sB s (k + 1) = d at hix1 hd1
          have hdl : d.toNat < 256 := d.toNat_lt
          have Hd1 := Lib.hid hd1
          clear hd1
          by_cases q1 : d.toNat = 47
          · rw [q1] at hix1
            have Hst : Hid (skip false (List.drop p s.data.toList) = skip true (List.drop k s.data.toList)) := by
              show _ = _
              have e1 : d = 47 := UInt8.toNat_inj.1 q1
              rw [Hsk.out, Hd.out, skip, if_neg hb, if_pos ⟨q, by rw [Hd1.out, e1]; rfl⟩, skip, if_neg hnb.2.2.1]
            clear hb hnb
            go_wp2
            go_loopw [1] (fun i wi => wi = wr ∧ ∃ j : Nat, k ≤ j ∧ j ≤ s.size ∧ i = .int .i64 j ∧ skip false (s.data.toList.drop p) = skip true (s.data.toList.drop j)) (fun i _ => s.size - (intOf i).toNat)
            case atStart => exact ⟨rfl, k, Nat.le_refl _, hk, rfl, Hst.out⟩
            case round =>
              obtain ⟨rfl, j, hkj, hj, rfl, hsj⟩ := hrel
              have Hsj := Lib.hid hsj
              clear hsj
              by_cases hjs : j < s.size
              · have hixj := sB_index s j hjs
                have hdj := sB_drop s j hjs
                have hkk : j = k → sB s j = c := by
                  intro e
                  have hd2 := Hd.out
                  rw [← e, hdj] at hd2
                  injection hd2
                generalize sB s j = x at hixj hdj hkk
                have hx : x.toNat < 256 := x.toNat_lt
                have Hdj := Lib.hid hdj
                have Hkk := Lib.hid hkk
                clear hdj hkk
                by_cases qx : x.toNat = 10
                · rw [qx] at hixj
                  have hjk : j ≠ k := fun e => by
                    have := Hkk.out e
                    rw [this] at qx
                    omega
                  have hx10 : x = 10 := UInt8.toNat_inj.1 qx
                  go_wp2
                  exact ⟨⟨trivial, j, hj, rfl, by rw [Hsj.out, Hdj.out, hx10, skip_nl]⟩, by simp [intOf]; omega⟩
                · have qx' : ((x.toNat : Int) != 10) = true := by simp; omega
                  go_wp2
                  exact ⟨⟨trivial, j + 1, by omega, by omega, by go_num, by rw [Hsj.out, Hdj.out, skip, if_neg qx]⟩, by simp [intOf]; omega⟩
              · have hjk : j ≠ k := by omega
                go_wp2
                exact ⟨⟨trivial, j, hj, rfl, by rw [Hsj.out, drop_none s j (by omega)]; rfl⟩, by simp [intOf]; omega⟩
          · have q1' : ((d.toNat : Int) == 47) = false := by simp; omega
            have Hst : Hid (skip false (c :: List.drop (k + 1) s.data.toList) = c :: List.drop (k + 1) s.data.toList) := by
              show _ = _
              rw [skip, if_neg hb, if_neg]
              rintro ⟨-, e⟩
              rw [Hd1.out] at e
              injection e with e
              rw [e] at q1
              exact q1 rfl
            clear hb hnb
            go_wp2
            go_ret
            refine ⟨ret_int ?_, rfl⟩
            rw [Hsk.out, Hd.out, Hst.out]
            simp only [List.length_cons, List.length_drop, data_len]
            omega
        · have Hst : Hid (skip false (c :: List.drop (k + 1) s.data.toList) = c :: List.drop (k + 1) s.data.toList) := by
            show _ = _
            rw [drop_none s (k + 1) (by omega), skip, if_neg hb, if_neg]
            rintro ⟨-, e⟩
            cases e
          clear hb hnb
          go_wp2
          go_ret
          refine ⟨ret_int ?_, rfl⟩
          rw [Hsk.out, Hd.out, Hst.out]
          simp only [List.length_cons, List.length_drop, data_len]
          omega
      · have q1 : ((c.toNat : Int) == 47) = false := by simp; omega
        have q2 : ((c.toNat : Int) == 32) = false := by simp; omega
        have q3 : ((c.toNat : Int) == 9) = false := by simp; omega
        have q4 : ((c.toNat : Int) == 10) = false := by simp; omega
        have q5 : ((c.toNat : Int) == 13) = false := by simp; omega
        have Hst : Hid (skip false (c :: List.drop (k + 1) s.data.toList) = c :: List.drop (k + 1) s.data.toList) := by
          show _ = _
          rw [skip, if_neg hb, if_neg]
          exact fun h => q h.1
        clear hb hnb
        go_wp2
        go_ret
        refine ⟨ret_int ?_, rfl⟩
        rw [Hsk.out, Hd.out, Hst.out]
        simp only [List.length_cons, List.length_drop, data_len]
        omega
    · go_wp2
      go_ret
      refine ⟨ret_int ?_, rfl⟩
      rw [Hsk.out, drop_none s k (by omega)]
      simp [skip]
      omega
end Go.Proofs.YtlnhhffhmeekoaaGreatDoor
namespace Go.Proofs.YtlnhhffhmeekoaaGreatDoor
open Go.RowKit Go.IntWalk

abbrev tokV (k : Nat) (t : List UInt8) (n p : Nat) : Value := .agg #[.int .i64 (k : Int), .string ⟨t.toArray⟩, .int .i64 (n : Int), .int .i64 (p : Int)]
def tokT (p : Nat) (o : Except Nat (Nat × List UInt8 × Nat × Nat)) : Ending := match o with
  | .ok (k, t, n, m) => .returned (.tuple #[tokV k t n p, .int .i64 ((p + m : Nat) : Int), .int .i64 0])
  | .error e => .returned (.tuple #[tokV 0 [] 0 0, .int .i64 0, .int .i64 (e : Int)])
theorem ba_eta (s : ByteArray) : (⟨s.data.toList.toArray⟩ : ByteArray) = s := by cases s; rfl
theorem ba_of (s : ByteArray) (l : List UInt8) (h : s.data.toList = l) : s = ⟨l.toArray⟩ := by rw [← h]
theorem ext_at (s : ByteArray) (p n : Nat) (h : p + n ≤ s.size) : s.extract p (p + n) = ⟨((s.data.toList.drop p).take n).toArray⟩ := by
  apply ba_of
  have := ext_take s p n h
  rwa [ByteArray.toList_eq] at this

theorem ref_Keywords' (w : World) :
    Calls Tryz.prog 118 #[] w fun e w' => ∃ A, e = .returned (.slice A 12 12) ∧ Below w.heap.size w w' ∧ Hid (Strs w' A 12 kwStrs) :=
  (ref_Keywords w).mono fun _ _ h => ⟨_, h⟩
/-- two variables of four cells, each in its own block: the result's and the token's -/
abbrev Two (w : World) (A B C D E F G H : Value) (w' : World) : Prop :=
  w'.cell? ⟨w.heap.size, 0, none⟩ = some A ∧ w'.cell? ⟨w.heap.size, 1, none⟩ = some B ∧ w'.cell? ⟨w.heap.size, 2, none⟩ = some C ∧ w'.cell? ⟨w.heap.size, 3, none⟩ = some D ∧ (∀ i, w'.frozen? ⟨w.heap.size, i, none⟩ = false) ∧
  w'.cell? ⟨w.heap.size + 1, 0, none⟩ = some E ∧ w'.cell? ⟨w.heap.size + 1, 1, none⟩ = some F ∧ w'.cell? ⟨w.heap.size + 1, 2, none⟩ = some G ∧ w'.cell? ⟨w.heap.size + 1, 3, none⟩ = some H ∧ (∀ i, w'.frozen? ⟨w.heap.size + 1, i, none⟩ = false) ∧ Below w.heap.size w w'
theorem two_newL (w : World) (A B C D E F G H : Value) (ty tz : TypeId) : Two w A B C D E F G H ((w.alloc (.cells #[A, B, C, D] ty)).alloc (.cells #[E, F, G, H] tz)).drew := by
  have e : ∀ i, ((w.alloc (.cells #[A, B, C, D] ty)).alloc (.cells #[E, F, G, H] tz)).cell? ⟨w.heap.size + 1, i, none⟩ = #[E, F, G, H][i]? := fun i => World.cell?_alloc_at _ _ _ _ (by rw [World.size_alloc])
  have e' : ∀ i, ((w.alloc (.cells #[A, B, C, D] ty)).alloc (.cells #[E, F, G, H] tz)).cell? ⟨w.heap.size, i, none⟩ = #[A, B, C, D][i]? := fun i => by
    rw [World.cell?_alloc_past _ _ _ (by rw [World.size_alloc]; omega), World.cell?_alloc_at _ _ _ _ rfl]
  have f : ∀ i, ((w.alloc (.cells #[A, B, C, D] ty)).alloc (.cells #[E, F, G, H] tz)).frozen? ⟨w.heap.size + 1, i, none⟩ = false := fun i => World.frozen?_alloc_at _ _ _ _ (by rw [World.size_alloc])
  have f' : ∀ i, ((w.alloc (.cells #[A, B, C, D] ty)).alloc (.cells #[E, F, G, H] tz)).frozen? ⟨w.heap.size, i, none⟩ = false := fun i => by
    rw [World.frozen?_alloc_past _ _ _ (by rw [World.size_alloc]; omega), World.frozen?_alloc_at _ _ _ _ rfl]
  exact ⟨e' 0, e' 1, e' 2, e' 3, f', e 0, e 1, e 2, e 3, f, (((Below.refl _ _).alloc (Nat.le_refl _) _).alloc (by rw [World.size_alloc]; omega) _).drew⟩
theorem two_new0 (w : World) (A B C D E F G H : Value) (ty tz : TypeId) : Two w A B C D E F G H ((w.alloc (.cells #[A, B, C, D] ty)).alloc (.cells #[E, F, G, H] tz)) := by
  obtain ⟨a, b, c, d, e, f, g, h, i, j, k⟩ := two_newL w A B C D E F G H ty tz
  exact ⟨a, b, c, d, e, f, g, h, i, j, k.os, k.tape, k.output, k.size, k.block⟩
theorem block_lt_cell {w : World} {a : Addr} {v : Value} (h : w.cell? a = some v) : a.block < w.heap.size := World.block_lt_of_cell? w _ h
theorem two_below {w wr w1 : World} {A B C D E F G H : Value} (h : Two w A B C D E F G H wr) (hb : Below wr.heap.size wr w1) : Two w A B C D E F G H w1 := by
  obtain ⟨a, b, c, d, e, f, g, i, j, k, l⟩ := h
  exact ⟨bcell hb a, bcell hb b, bcell hb c, bcell hb d, fun n => (World.frozen?_of_block (a := ⟨w.heap.size, n, none⟩) (hb.block w.heap.size (block_lt_cell a))).trans (e n),
    bcell hb f, bcell hb g, bcell hb i, bcell hb j, fun n => (World.frozen?_of_block (a := ⟨w.heap.size + 1, n, none⟩) (hb.block (w.heap.size + 1) (block_lt_cell f))).trans (k n), bthen l hb⟩

set_option maxRecDepth 20000 in
set_option maxHeartbeats 400000 in
theorem ref_token (s : ByteArray) (p : Nat) (w : World) (hs : s.size ≤ 1048576) (hp : p < s.size) :
    Calls Tryz.prog 65 #[.string s, .int .i64 p] w fun e w' => e = tokT p (tokS (s.data.toList.drop p)) ∧ Below w.heap.size w w' := by
  have hix := sB_index s p hp
  have hd := sB_drop s p hp
  generalize hcc : sB s p = c at hix hd
  have hc : c.toNat < 256 := c.toNat_lt
  have hwl := wordLen_le (s.data.toList.drop p)
  rw [List.length_drop, data_len] at hwl
  have hhd : (s.data.toList.drop p).headD 0 = c := by rw [hd]; rfl
  have hext := ext_at s p (wordLen (s.data.toList.drop p)) (by omega)
  have htok : tokS (s.data.toList.drop p) = tokS (s.data.toList.drop p) := rfl
  conv at htok => rhs; unfold tokS
  simp only [hhd] at htok
  have hkw := fun A W hx => ref_isIn A 12 12 kwStrs (s.extract p (p + wordLen (s.data.toList.drop p))) W hx (by omega)
  rw [kw_in, hext] at hkw
  have hword := fun W => ref_wordAt s p W hs (by omega)
  have hnum := fun W => ref_number (s.extract p (p + wordLen (s.data.toList.drop p))) W (by rw [ByteArray.size_extract]; omega)
  have hquo := fun W => ref_quoted s p W hs hp
  have hsig := fun W => ref_sign s p W hs (by omega)
  have htl : (s.data.toList.drop p).tail = s.data.toList.drop (p + 1) := by rw [hd]; rfl
  rw [htl] at htok
  have hsz : (s.data.toList.drop p).length = s.size - p := by rw [List.length_drop, data_len]
  rw [hsz] at htok
  rw [hext] at hnum
  simp only [] at hkw hnum
  have hsl := signS_len (s.data.toList.drop p)
  rw [hsz] at hsl
  have htn : ((s.data.toList.drop p).take (wordLen (s.data.toList.drop p))).length = wordLen (s.data.toList.drop p) := by rw [List.length_take, hsz]; omega
  have hql : ∀ b r, quoS (s.data.toList.drop (p + 1)) [] = some (b, r) → r.length ≤ s.size - p ∧ b.length ≤ 2047 := by
    intro b r h
    have := quoS_len h
    rw [List.length_drop, data_len] at this
    have h3 := this.2.2 (by simp)
    omega
  generalize wordLen (s.data.toList.drop p) = n at *
  generalize (s.data.toList.drop p).take n = t at *
  generalize signS (s.data.toList.drop p) = sg at *
  generalize quoS (s.data.toList.drop (p + 1)) [] = q at *
  generalize tokS (s.data.toList.drop p) = T at *
  have hw2 : IntKind.i64.wrap ((p : Int) + (n : Int)) = (p : Int) + (n : Int) := i64_in _ (by omega)
  have hb1 : (0 : Int) ≤ (p : Int) := by omega
  have hb2 : (p : Int) ≤ (p : Int) + (n : Int) := by omega
  have hb3 : (p : Int) + (n : Int) ≤ (s.size : Int) := by omega
  have hext' : s.extract p ((p : Int) + (n : Int)).toNat = ⟨t.toArray⟩ := by rw [show ((p : Int) + (n : Int)).toNat = p + n by omega]; exact hext
  clear hcc hd hhd htl hsz hext
  by_cases h1 : isLetter c.toNat = true
  · rw [if_pos h1] at htok
    clear hnum hquo hsig hql
    by_cases h2 : isKeyword t = true
    · rw [if_pos h2, htn] at htok
      subst htok
      simp only [h2] at hkw
      go_enter Tryz.func65, Tryz.ntmps65
      go_wp2_with (first
        | (go_at_call 114; refine (hword _).mono ?_; rintro e w' ⟨rfl, rfl⟩)
        | (go_at_call 115; refine (ref_letter _ _).mono ?_; rintro e w' ⟨rfl, rfl⟩)
        | (go_at_call 116; refine (ref_digit _ _).mono ?_; rintro e w' ⟨rfl, rfl⟩)
        | fail)
      go_region_held3 (fun w' => w'.cell? ⟨w.heap.size, 0, none⟩ = some (.int .i64 0) ∧ w'.cell? ⟨w.heap.size, 1, none⟩ = some (.string ⟨#[]⟩) ∧ w'.cell? ⟨w.heap.size, 2, none⟩ = some (.int .i64 0) ∧ w'.cell? ⟨w.heap.size, 3, none⟩ = some (.int .i64 0) ∧ (∀ i, w'.frozen? ⟨w.heap.size, i, none⟩ = false) ∧ w'.cell? ⟨w.heap.size + 1, 0, none⟩ = some (.int .i64 1) ∧ w'.cell? ⟨w.heap.size + 1, 1, none⟩ = some (.string ⟨t.toArray⟩) ∧ w'.cell? ⟨w.heap.size + 1, 2, none⟩ = some (.int .i64 0) ∧ w'.cell? ⟨w.heap.size + 1, 3, none⟩ = some (.int .i64 p) ∧ (∀ i, w'.frozen? ⟨w.heap.size + 1, i, none⟩ = false) ∧ Below w.heap.size w w') ((first | assumption | exact two_newL _ _ _ _ _ _ _ _ _ _ _ | exact two_below ‹_› hB)) (first
        | (go_at_call 118; refine (ref_Keywords' _).mono ?_; rintro e w1 ⟨A, rfl, hB, HS⟩)
        | (go_at_call 117; refine (hkw _ _ HS).mono ?_; rintro e w' ⟨rfl, rfl⟩))
      all_goals (rename_i hH; obtain ⟨a0, a1, a2, a3, a4, f0, f1, f2, f3, f4, hBw⟩ := hH; have HBw := Lib.hid hBw; clear hBw)
      all_goals go_wp2
      refine bodyPost_ret (v := .tuple #[tokV 2 t 0 p, .int .i64 ((p : Int) + (n : Int)), .int .i64 0]) (by simp [results, tokV, Tryz.results65, go_sem, World.cell?_setCell_far, a0, a1, a2, a3]) rfl ⟨?_, ?_⟩
      · simp [tokT]
      · refine ((((HBw.out.setCell ?_ _).setCell ?_ _).setCell ?_ _).setCell ?_ _).setCell ?_ _ <;> simp
    have h2' : isKeyword t = false := by simpa using h2
    simp only [h2'] at hkw
    rw [if_neg h2] at htok
    by_cases h3 : 20 < n
    · rw [if_pos (by omega)] at htok
      subst htok
      go_enter Tryz.func65, Tryz.ntmps65
      go_wp2_with (first
        | (go_at_call 114; refine (hword _).mono ?_; rintro e w' ⟨rfl, rfl⟩)
        | (go_at_call 115; refine (ref_letter _ _).mono ?_; rintro e w' ⟨rfl, rfl⟩)
        | (go_at_call 116; refine (ref_digit _ _).mono ?_; rintro e w' ⟨rfl, rfl⟩)
        | fail)
      go_region_held3 (fun w' => w'.cell? ⟨w.heap.size, 0, none⟩ = some (.int .i64 0) ∧ w'.cell? ⟨w.heap.size, 1, none⟩ = some (.string ⟨#[]⟩) ∧ w'.cell? ⟨w.heap.size, 2, none⟩ = some (.int .i64 0) ∧ w'.cell? ⟨w.heap.size, 3, none⟩ = some (.int .i64 0) ∧ (∀ i, w'.frozen? ⟨w.heap.size, i, none⟩ = false) ∧ w'.cell? ⟨w.heap.size + 1, 0, none⟩ = some (.int .i64 1) ∧ w'.cell? ⟨w.heap.size + 1, 1, none⟩ = some (.string ⟨t.toArray⟩) ∧ w'.cell? ⟨w.heap.size + 1, 2, none⟩ = some (.int .i64 0) ∧ w'.cell? ⟨w.heap.size + 1, 3, none⟩ = some (.int .i64 p) ∧ (∀ i, w'.frozen? ⟨w.heap.size + 1, i, none⟩ = false) ∧ Below w.heap.size w w') ((first | assumption | exact two_newL _ _ _ _ _ _ _ _ _ _ _ | exact two_below ‹_› hB)) (first
        | (go_at_call 118; refine (ref_Keywords' _).mono ?_; rintro e w1 ⟨A, rfl, hB, HS⟩)
        | (go_at_call 117; refine (hkw _ _ HS).mono ?_; rintro e w' ⟨rfl, rfl⟩))
      all_goals (rename_i hH; obtain ⟨a0, a1, a2, a3, a4, f0, f1, f2, f3, f4, hBw⟩ := hH; have HBw := Lib.hid hBw; clear hBw)
      all_goals go_wp2
      refine bodyPost_ret (v := .tuple #[tokV 0 [] 0 0, .int .i64 0, .int .i64 164]) (by simp [results, tokV, Tryz.results65, go_sem, World.cell?_setCell_far, a0, a1, a2, a3]) rfl ⟨?_, ?_⟩
      · simp [tokT]
      · refine ((((HBw.out.setCell ?_ _).setCell ?_ _).setCell ?_ _).setCell ?_ _) <;> simp
    · rw [if_neg (by omega), htn] at htok
      subst htok
      go_enter Tryz.func65, Tryz.ntmps65
      go_wp2_with (first
        | (go_at_call 114; refine (hword _).mono ?_; rintro e w' ⟨rfl, rfl⟩)
        | (go_at_call 115; refine (ref_letter _ _).mono ?_; rintro e w' ⟨rfl, rfl⟩)
        | (go_at_call 116; refine (ref_digit _ _).mono ?_; rintro e w' ⟨rfl, rfl⟩)
        | fail)
      go_region_held3 (fun w' => w'.cell? ⟨w.heap.size, 0, none⟩ = some (.int .i64 0) ∧ w'.cell? ⟨w.heap.size, 1, none⟩ = some (.string ⟨#[]⟩) ∧ w'.cell? ⟨w.heap.size, 2, none⟩ = some (.int .i64 0) ∧ w'.cell? ⟨w.heap.size, 3, none⟩ = some (.int .i64 0) ∧ (∀ i, w'.frozen? ⟨w.heap.size, i, none⟩ = false) ∧ w'.cell? ⟨w.heap.size + 1, 0, none⟩ = some (.int .i64 1) ∧ w'.cell? ⟨w.heap.size + 1, 1, none⟩ = some (.string ⟨t.toArray⟩) ∧ w'.cell? ⟨w.heap.size + 1, 2, none⟩ = some (.int .i64 0) ∧ w'.cell? ⟨w.heap.size + 1, 3, none⟩ = some (.int .i64 p) ∧ (∀ i, w'.frozen? ⟨w.heap.size + 1, i, none⟩ = false) ∧ Below w.heap.size w w') ((first | assumption | exact two_newL _ _ _ _ _ _ _ _ _ _ _ | exact two_below ‹_› hB)) (first
        | (go_at_call 118; refine (ref_Keywords' _).mono ?_; rintro e w1 ⟨A, rfl, hB, HS⟩)
        | (go_at_call 117; refine (hkw _ _ HS).mono ?_; rintro e w' ⟨rfl, rfl⟩))
      all_goals (rename_i hH; obtain ⟨a0, a1, a2, a3, a4, f0, f1, f2, f3, f4, hBw⟩ := hH; have HBw := Lib.hid hBw; clear hBw)
      all_goals go_wp2
      refine bodyPost_ret (v := .tuple #[tokV 1 t 0 p, .int .i64 ((p : Int) + (n : Int)), .int .i64 0]) (by simp [results, tokV, Tryz.results65, go_sem, World.cell?_setCell_far, a0, a1, a2, a3]) rfl ⟨?_, ?_⟩
      · simp [tokT]
      · refine (((HBw.out.setCell ?_ _).setCell ?_ _).setCell ?_ _).setCell ?_ _ <;> simp
  have h1' : isLetter c.toNat = false := by simpa using h1
  rw [if_neg h1] at htok
  clear hkw
  by_cases h2 : isDigit c.toNat = true
  · rw [if_pos h2] at htok
    clear hsig hquo hql
    rcases hn : numS t with _ | u
    · rw [hn] at htok hnum
      simp only [] at htok
      subst htok
      go_enter Tryz.func65, Tryz.ntmps65
      go_wp2_with (first
        | (go_at_call 114; refine (hword _).mono ?_; rintro e w' ⟨rfl, rfl⟩)
        | (go_at_call 115; refine (ref_letter _ _).mono ?_; rintro e w' ⟨rfl, rfl⟩)
        | (go_at_call 116; refine (ref_digit _ _).mono ?_; rintro e w' ⟨rfl, rfl⟩)
        | (go_at_call 119; refine (hnum _).mono ?_; rintro e w' ⟨⟨v, rfl, hv⟩, rfl⟩))
      refine bodyPost_ret (v := .tuple #[tokV 0 [] 0 0, .int .i64 0, .int .i64 162]) (by simp [results, tokV, Tryz.results65, go_sem]) rfl ⟨by simp [tokT], ?_⟩
      exact ((Below.refl _ _).alloc (Nat.le_refl _) _).alloc (by simp) _
    · rw [hn, htn] at htok
      rw [hn] at hnum
      simp only [] at htok
      subst htok
      go_enter Tryz.func65, Tryz.ntmps65
      go_wp2_with (first
        | (go_at_call 114; refine (hword _).mono ?_; rintro e w' ⟨rfl, rfl⟩)
        | (go_at_call 115; refine (ref_letter _ _).mono ?_; rintro e w' ⟨rfl, rfl⟩)
        | (go_at_call 116; refine (ref_digit _ _).mono ?_; rintro e w' ⟨rfl, rfl⟩)
        | (go_at_call 119; refine (hnum _).mono ?_; rintro e w' ⟨⟨v, rfl, hv⟩, rfl⟩; obtain rfl := hv u rfl))
      refine bodyPost_ret (v := .tuple #[tokV 3 [] u p, .int .i64 ((p : Int) + (n : Int)), .int .i64 0]) (by simp [results, tokV, Tryz.results65, go_sem]) rfl ⟨by simp [tokT], ?_⟩
      exact ((Below.refl _ _).alloc (Nat.le_refl _) _).alloc (by simp) _
  have h2' : isDigit c.toNat = false := by simpa using h2
  rw [if_neg h2] at htok
  clear hnum hword
  have hword := fun W => ref_wordAt s p W hs (by omega)
  by_cases h3 : c.toNat = 34
  · rw [if_pos h3] at htok
    rcases hq : q with _ | ⟨b, r⟩
    · rw [hq] at htok hquo
      simp only [] at htok
      subst htok
      replace hquo : ∀ W : World, Calls Tryz.prog 120 #[.string s, .int .i64 p] W fun e w' => e = .returned (.tuple #[.string ⟨#[]⟩, .int .i64 0, .bool false]) ∧ Below W.heap.size W w' := hquo
      have q34 : ((c.toNat : Int) == 34) = true := by simp [h3]
      go_enter Tryz.func65, Tryz.ntmps65
      go_wp2_with (first
        | (go_at_call 114; refine (hword _).mono ?_; rintro e w' ⟨rfl, rfl⟩)
        | (go_at_call 115; refine (ref_letter _ _).mono ?_; rintro e w' ⟨rfl, rfl⟩)
        | (go_at_call 116; refine (ref_digit _ _).mono ?_; rintro e w' ⟨rfl, rfl⟩)
        | (go_at_call 120; refine (hquo _).mono ?_; rintro e w1 ⟨rfl, hB⟩; obtain ⟨a0, a1, a2, a3, a4, f0, f1, f2, f3, f4, hBw⟩ := two_below (two_new0 _ _ _ _ _ _ _ _ _ _ _) hB; have HBw := Lib.hid hBw; clear hBw))
      refine bodyPost_ret (v := .tuple #[tokV 0 [] 0 0, .int .i64 0, .int .i64 163]) (by simp [results, tokV, Tryz.results65, go_sem, World.cell?_setCell_far, a0, a1, a2, a3, f0, f1, f2, f3]) rfl ⟨?_, ?_⟩
      · simp [tokT]
      · refine ((((HBw.out.setCell ?_ _).setCell ?_ _).setCell ?_ _).setCell ?_ _) <;> simp
    · have hq2 := hql b r hq
      rw [hq] at htok hquo
      simp only [] at htok
      subst htok
      have hnx : ((s.size - r.length : Nat) : Int) = ((p + (s.size - p - r.length) : Nat) : Int) := by omega
      replace hquo : ∀ W : World, Calls Tryz.prog 120 #[.string s, .int .i64 p] W fun e w' => e = .returned (.tuple #[.string ⟨b.toArray⟩, .int .i64 ((p + (s.size - p - r.length) : Nat) : Int), .bool true]) ∧ Below W.heap.size W w' := by rw [← hnx]; exact hquo
      generalize s.size - p - r.length = m at *
      have q34 : ((c.toNat : Int) == 34) = true := by simp [h3]
      go_enter Tryz.func65, Tryz.ntmps65
      go_wp2_with (first
        | (go_at_call 114; refine (hword _).mono ?_; rintro e w' ⟨rfl, rfl⟩)
        | (go_at_call 115; refine (ref_letter _ _).mono ?_; rintro e w' ⟨rfl, rfl⟩)
        | (go_at_call 116; refine (ref_digit _ _).mono ?_; rintro e w' ⟨rfl, rfl⟩)
        | (go_at_call 120; refine (hquo _).mono ?_; rintro e w1 ⟨rfl, hB⟩; obtain ⟨a0, a1, a2, a3, a4, f0, f1, f2, f3, f4, hBw⟩ := two_below (two_new0 _ _ _ _ _ _ _ _ _ _ _) hB; have HBw := Lib.hid hBw; clear hBw))
      refine bodyPost_ret (v := .tuple #[tokV 4 b 0 p, .int .i64 ((p + m : Nat) : Int), .int .i64 0]) (by simp [results, tokV, Tryz.results65, go_sem, World.cell?_setCell_far, a0, a1, a2, a3, f0, f1, f2, f3]) rfl ⟨?_, ?_⟩
      · simp [tokT]
      · refine ((((((HBw.out.setCell ?_ _).setCell ?_ _).setCell ?_ _).setCell ?_ _).setCell ?_ _).setCell ?_ _) <;> simp
  have q34 : ((c.toNat : Int) == 34) = false := by simp; omega
  rw [if_neg h3] at htok
  clear hquo hql
  by_cases h4 : sg = []
  · rw [if_pos h4] at htok
    subst htok
    rw [h4] at hsig
    go_enter Tryz.func65, Tryz.ntmps65
    go_wp2_with (first
      | (go_at_call 114; refine (hword _).mono ?_; rintro e w' ⟨rfl, rfl⟩)
      | (go_at_call 115; refine (ref_letter _ _).mono ?_; rintro e w' ⟨rfl, rfl⟩)
      | (go_at_call 116; refine (ref_digit _ _).mono ?_; rintro e w' ⟨rfl, rfl⟩)
      | (go_at_call 121; refine (hsig _).mono ?_; rintro e w1 ⟨rfl, hB⟩; obtain ⟨a0, a1, a2, a3, a4, f0, f1, f2, f3, f4, hBw⟩ := two_below (two_new0 _ _ _ _ _ _ _ _ _ _ _) hB; have HBw := Lib.hid hBw; clear hBw hB))
    refine bodyPost_ret (v := .tuple #[tokV 0 [] 0 0, .int .i64 0, .int .i64 161]) (by simp [results, tokV, Tryz.results65, go_sem, World.cell?_setCell_far, a0, a1, a2, a3, f0, f1, f2, f3]) rfl ⟨?_, ?_⟩
    · simp [tokT]
    · refine (((((HBw.out.setCell ?_ _).setCell ?_ _).setCell ?_ _).setCell ?_ _).setCell ?_ _) <;> simp
  · rw [if_neg h4] at htok
    subst htok
    have hsz2 : (⟨sg.toArray⟩ : ByteArray).size = sg.length := by simp [ByteArray.size]
    have hem : sg.isEmpty = false := by simpa using h4
    have hsl2 := hsl h4
    go_enter Tryz.func65, Tryz.ntmps65
    go_wp2_with (first
      | (go_at_call 114; refine (hword _).mono ?_; rintro e w' ⟨rfl, rfl⟩)
      | (go_at_call 115; refine (ref_letter _ _).mono ?_; rintro e w' ⟨rfl, rfl⟩)
      | (go_at_call 116; refine (ref_digit _ _).mono ?_; rintro e w' ⟨rfl, rfl⟩)
      | (go_at_call 121; refine (hsig _).mono ?_; rintro e w1 ⟨rfl, hB⟩; obtain ⟨a0, a1, a2, a3, a4, f0, f1, f2, f3, f4, hBw⟩ := two_below (two_new0 _ _ _ _ _ _ _ _ _ _ _) hB; have HBw := Lib.hid hBw; clear hBw hB))
    go_region
    go_wp2
    refine bodyPost_ret (v := .tuple #[tokV 5 sg 0 p, .int .i64 ((p : Int) + (sg.length : Int)), .int .i64 0]) (by simp [results, tokV, Tryz.results65, go_sem, World.cell?_setCell_far, a0, a1, a2, a3, f0, f1, f2, f3]) rfl ⟨?_, ?_⟩
    · simp [tokT]
    · refine (((((HBw.out.setCell ?_ _).setCell ?_ _).setCell ?_ _).setCell ?_ _).setCell ?_ _).drew <;> simp
end Go.Proofs.YtlnhhffhmeekoaaGreatDoor
