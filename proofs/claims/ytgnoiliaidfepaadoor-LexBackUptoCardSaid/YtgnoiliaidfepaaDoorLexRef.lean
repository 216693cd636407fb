/- Contracts of the reference's hex, piece and quoted: they say the same words as lex.escaped and lex.quoted. -/
import Derived.Test.YtgnoiliaidfepaaDoorLexQuoted
set_option linter.unusedVariables false
set_option linter.unusedSimpArgs false
namespace Go.Proofs.YtgnoiliaidfepaaDoor
open Go.RowKit

theorem hexd_index (k : Nat) (h : k < 16) (W : World) : (Instr.index 9 (.string ⟨#[48, 49, 50, 51, 52, 53, 54, 55, 56, 57, 97, 98, 99, 100, 101, 102]⟩) (.int .i64 (k : Int))).run Tryd.prog W = .ok (.int .u8 (hexd k).toNat) W := by
  have h := sB_index ⟨#[48, 49, 50, 51, 52, 53, 54, 55, 56, 57, 97, 98, 99, 100, 101, 102]⟩ k h W
  exact h
theorem hexd_hit (c : UInt8) (k : Nat) (h : k < 16) (e : (hexd k).toNat = c.toNat) : hexI c = (k : Int) := by
  have key : ∀ (c : Fin 256) (k : Fin 16), (hexd k.val).toNat = c.val → hexI (UInt8.ofNat c.val) = (k.val : Int) := by decide +kernel
  have := key ⟨c.toNat, c.toNat_lt⟩ ⟨k, h⟩ e
  simpa using this
theorem hexd_miss (c : UInt8) (h : ∀ k, k < 16 → (hexd k).toNat ≠ c.toNat) : hexI c = -1 := by
  have key : ∀ c : Fin 256, (∀ k : Fin 16, (hexd k.val).toNat ≠ c.val) → hexI (UInt8.ofNat c.val) = -1 := by decide +kernel
  have := key ⟨c.toNat, c.toNat_lt⟩ fun k => h k.val k.isLt
  simpa using this

theorem ref_hex (c : UInt8) (w : World) :
    Calls Tryd.prog 130 #[.int .u8 c.toNat] w fun e w' => e = .returned (.int .i64 (hexI c)) ∧ w = w' := by
  have hc : c.toNat < 256 := c.toNat_lt
  go_enter Tryd.func130, Tryd.ntmps130
  go_wp2
  go_loop [4] (fun i => ∃ k : Nat, k ≤ 16 ∧ i = .int .i64 k ∧ ∀ j, j < k → (hexd j).toNat ≠ c.toNat) (fun i => 16 - (intOf i).toNat)
  case atStart => exact ⟨0, by omega, rfl, fun j hj => by omega⟩
  case round =>
    obtain ⟨k, hk, rfl, hr⟩ := hrel
    have Hr := Lib.hid hr
    clear hr
    by_cases hlt : k < 16
    · have hix := hexd_index k hlt
      by_cases he : (hexd k).toNat = c.toNat
      · have hh := hexd_hit c k hlt he
        have Hh := Lib.hid hh
        rw [he] at hix
        clear hh he
        go_wp2
        go_ret
        exact ⟨ret_int Hh.out.symm, rfl⟩
      · have hne : (((hexd k).toNat : Int) == (c.toNat : Int)) = false := by simp; omega
        have hlt2 : (hexd k).toNat < 256 := (hexd k).toNat_lt
        have Hne := Lib.hid he
        clear he
        go_wp2
        go_round
        case rel => exact ⟨k + 1, by omega, by go_num, fun j hj => by
          by_cases e : j = k
          · rw [e]; exact Hne.out
          · exact Hr.out j (by omega)⟩
        case measure => simp [intOf]; omega
    · go_wp2
      go_ret
      exact ⟨ret_int (hexd_miss c fun j hj => Hr.out j (by omega)).symm, rfl⟩

theorem escS_bad {d : UInt8} {r : List UInt8} (h1 : d.toNat ≠ 34) (h2 : d.toNat ≠ 92) (h3 : d.toNat ≠ 120) : escS (d :: r) = none := by simp [escS, h1, h2, h3]
set_option maxRecDepth 20000 in
set_option maxHeartbeats 1000000 in
theorem ref_piece (s : ByteArray) (k : Nat) (w : World) (hs : s.size ≤ 1048576) (hk : k < s.size) :
    Calls Tryd.prog 104 #[.string s, .int .i64 k] w fun e w' => e = escV (pieceS (s.data.toList.drop k)) ∧ w = w' := by
  have hix := sB_index s k hk
  have hd := sB_drop s k hk
  generalize sB s k = c at hix hd
  have hc : c.toNat < 256 := c.toNat_lt
  have Hd := Lib.hid hd
  clear hd
  by_cases q1 : c.toNat < 32
  · have H := Lib.hid (show pieceS (c :: List.drop (k + 1) s.data.toList) = none by simp [pieceS, q1])
    go_enter Tryd.func104, Tryd.ntmps104
    go_wp2
    go_ret2
    rw [Hd.out, H.out]
    exact ⟨rfl, rfl⟩
  by_cases q2 : 126 < c.toNat
  · have H := Lib.hid (show pieceS (c :: List.drop (k + 1) s.data.toList) = none by simp [pieceS, q2])
    go_enter Tryd.func104, Tryd.ntmps104
    go_wp2
    go_ret2
    rw [Hd.out, H.out]
    exact ⟨rfl, rfl⟩
  by_cases q3 : c.toNat = 34
  · have H := Lib.hid (show pieceS (c :: List.drop (k + 1) s.data.toList) = none by simp [pieceS, q3])
    have q3' : ((c.toNat : Int) == 34) = true := by simp [q3]
    go_enter Tryd.func104, Tryd.ntmps104
    go_wp2
    go_ret2
    rw [Hd.out, H.out]
    exact ⟨rfl, rfl⟩
  have q3' : ((c.toNat : Int) == 34) = false := by simp; omega
  by_cases q4 : c.toNat ≠ 92
  · have H := Lib.hid (show pieceS (c :: List.drop (k + 1) s.data.toList) = some (c, 1) by simp [pieceS, q1, q2, q3, q4])
    have q4' : ((c.toNat : Int) == 92) = false := by simp; omega
    go_enter Tryd.func104, Tryd.ntmps104
    go_wp2
    go_ret2
    rw [Hd.out, H.out]
    exact ⟨rfl, rfl⟩
  have q4 : c.toNat = 92 := by omega
  have q4' : ((c.toNat : Int) == 92) = true := by simp [q4]
  have HE := Lib.hid (show pieceS (c :: List.drop (k + 1) s.data.toList) = escS (List.drop (k + 1) s.data.toList) by simp [pieceS, q4])
  by_cases r1 : k + 1 < s.size
  · have hix1 := sB_lit s ((k : Int) + 1) (k + 1) (by omega) r1
    have hd1 := sB_drop s (k + 1) r1
    generalize sB s (k + 1) = d at hix1 hd1
    have hdl : d.toNat < 256 := d.toNat_lt
    have Hd1 := Lib.hid hd1
    clear hd1
    by_cases q5 : d.toNat = 34
    · have H := Lib.hid (show escS (d :: List.drop (k + 1 + 1) s.data.toList) = some (d, 2) by simp [escS, q5])
      have q5' : ((d.toNat : Int) == 34) = true := by simp [q5]
      clear q1 q2 q3
      go_enter Tryd.func104, Tryd.ntmps104
      go_wp2
      go_ret2
      rw [Hd.out, HE.out, Hd1.out, H.out]
      exact ⟨by simp [escV, q5], rfl⟩
    have q5' : ((d.toNat : Int) == 34) = false := by simp; omega
    by_cases q6 : d.toNat = 92
    · have H := Lib.hid (show escS (d :: List.drop (k + 1 + 1) s.data.toList) = some (d, 2) by simp [escS, q6])
      have q6' : ((d.toNat : Int) == 92) = true := by simp [q6]
      clear q1 q2 q3
      go_enter Tryd.func104, Tryd.ntmps104
      go_wp2
      go_ret2
      rw [Hd.out, HE.out, Hd1.out, H.out]
      exact ⟨by simp [escV, q6], rfl⟩
    have q6' : ((d.toNat : Int) == 92) = false := by simp; omega
    by_cases q7 : d.toNat = 120
    · have q7' : ((d.toNat : Int) == 120) = true := by simp [q7]
      by_cases r3 : k + 3 < s.size
      · have hix2 := sB_lit s ((k : Int) + 2) (k + 2) (by omega) (by omega)
        have hix3 := sB_lit s ((k : Int) + 3) (k + 3) (by omega) r3
        have hd2 := sB_drop s (k + 2) (by omega)
        have hd3 := sB_drop s (k + 3) r3
        generalize sB s (k + 2) = x at hix2 hd2
        generalize sB s (k + 3) = y at hix3 hd3
        have hx : x.toNat < 256 := x.toNat_lt
        have hy : y.toNat < 256 := y.toNat_lt
        have He : Hid (escS (d :: List.drop (k + 1 + 1) s.data.toList) = match hexv x, hexv y with | some a, some b => some (UInt8.ofNat (16 * a + b), 4) | _, _ => none) := by
          show _ = _
          rw [show k + 1 + 1 = k + 2 from rfl, hd2, show k + 2 + 1 = k + 3 from rfl, hd3]
          rw [escS, if_neg (by omega), if_pos q7]
          cases hexv x <;> cases hexv y <;> rfl
        clear hd2 hd3 q1 q2 q3 q5 q6
        rcases hexI_cases x with ⟨e1, i1⟩ | ⟨a, ha, e1, i1⟩
        · have Hx := Lib.hid e1
          clear e1
          have hm := fun n : Nat => (show (16 : Int) * (-1) = -16 from rfl)
          go_enter Tryd.func104, Tryd.ntmps104
          go_wp2_with (go_at_call 130; refine (ref_hex _ _).mono ?_; rintro e w' ⟨rfl, rfl⟩)
          go_ret2
          rw [Hd.out, HE.out, Hd1.out, He.out, Hx.out]
          exact ⟨rfl, rfl⟩
        rcases hexI_cases y with ⟨e2, i2⟩ | ⟨b, hb, e2, i2⟩
        · have Hx := Lib.hid e1
          have Hy := Lib.hid e2
          clear e1 e2
          go_enter Tryd.func104, Tryd.ntmps104
          go_wp2_with (go_at_call 130; refine (ref_hex _ _).mono ?_; rintro e w' ⟨rfl, rfl⟩)
          go_ret2
          rw [Hd.out, HE.out, Hd1.out, He.out, Hx.out, Hy.out]
          exact ⟨rfl, rfl⟩
        have Hx := Lib.hid e1
        have Hy := Lib.hid e2
        clear e1 e2
        go_enter Tryd.func104, Tryd.ntmps104
        go_wp2_with (go_at_call 130; refine (ref_hex _ _).mono ?_; rintro e w' ⟨rfl, rfl⟩)
        go_ret2
        rw [Hd.out, HE.out, Hd1.out, He.out, Hx.out, Hy.out]
        have hu : (UInt8.ofNat (16 * a + b)).toNat = 16 * a + b := by simp; omega
        refine ⟨?_, rfl⟩
        simp only [escV, hu]
        simp
      · have H := Lib.hid (show escS (d :: List.drop (k + 1 + 1) s.data.toList) = none by
          have hl : (List.drop (k + 1 + 1) s.data.toList).length < 2 := by rw [List.length_drop, data_len]; omega
          generalize List.drop (k + 1 + 1) s.data.toList = L at hl ⊢
          rcases L with _ | ⟨x, _ | ⟨y, r⟩⟩
          · simp [escS, q7]
          · simp [escS, q7]
          · exfalso; simp at hl; omega)
        clear q1 q2 q3 q5 q6
        go_enter Tryd.func104, Tryd.ntmps104
        go_wp2
        go_ret2
        rw [Hd.out, HE.out, Hd1.out, H.out]
        exact ⟨rfl, rfl⟩
    have q7' : ((d.toNat : Int) == 120) = false := by simp; omega
    have H := Lib.hid (escS_bad (r := List.drop (k + 1 + 1) s.data.toList) q5 q6 q7)
    clear q1 q2 q3
    by_cases r3 : k + 3 < s.size
    · go_enter Tryd.func104, Tryd.ntmps104
      go_wp2
      go_ret2
      rw [Hd.out, HE.out, Hd1.out, H.out]
      exact ⟨rfl, rfl⟩
    · go_enter Tryd.func104, Tryd.ntmps104
      go_wp2
      go_ret2
      rw [Hd.out, HE.out, Hd1.out, H.out]
      exact ⟨rfl, rfl⟩
  · have H := Lib.hid (show escS (List.drop (k + 1) s.data.toList) = none by rw [drop_none s (k + 1) (by omega)]; rfl)
    clear q1 q2 q3
    go_enter Tryd.func104, Tryd.ntmps104
    go_wp2
    go_ret2
    rw [Hd.out, HE.out, H.out]
    exact ⟨rfl, rfl⟩
def quoT (n : Nat) (o : Option (List UInt8 × List UInt8)) : Ending := match o with
  | some (b, r) => .returned (.tuple #[.string ⟨b.toArray⟩, .int .i64 ((n - r.length : Nat) : Int), .bool true])
  | none => .returned (.tuple #[.string ⟨#[]⟩, .int .i64 0, .bool false])
theorem quoS_full {l acc : List UInt8} (h : 2047 < acc.length) (hl : ∀ c r, l = c :: r → c.toNat ≠ 34) : quoS l acc = none := by
  cases l with
  | nil => rfl
  | cons c r => exact quoS_long (hl c r rfl) (by omega)

set_option maxRecDepth 20000 in
set_option maxHeartbeats 1000000 in
theorem ref_quoted (s : ByteArray) (p : Nat) (w : World) (hs : s.size ≤ 1048576) (hp : p < s.size) :
    Calls Tryd.prog 77 #[.string s, .int .i64 p] w fun e w' => e = quoT s.size (quoS (s.data.toList.drop (p + 1)) []) ∧ Below w.heap.size w w' := by
  go_enter Tryd.func77, Tryd.ntmps77
  go_wp2
  go_loopw [1, 7] (fun v1 v7 wr => ∃ (k : Nat) (acc : List UInt8), k ≤ s.size ∧ 1 ≤ k ∧ v1 = .int .i64 k ∧ acc.length ≤ 2048 ∧ OwnB (behind w) wr v7 acc ∧ Fr (behind w) w wr ∧ (acc.length ≤ 2047 → quoS (s.data.toList.drop (p + 1)) [] = quoS (s.data.toList.drop k) acc) ∧ (2047 < acc.length → quoS (s.data.toList.drop (p + 1)) [] = none)) (fun i _ _ => s.size - (intOf i).toNat)
  case atStart => exact ⟨p + 1, [], hp, by omega, by go_num, by simp, OwnR.nil _ _ _ _, Fr.refl _ _, fun _ => rfl, fun h => by simp at h⟩
  case round =>
    obtain ⟨k, acc, hk, hk1, rfl, hacc, hO, hF, hq, hq2⟩ := hrel
    obtain ⟨A, cap, rfl, hcap⟩ := hO.slice
    have HO := Lib.hid hO
    have HF := Lib.hid hF
    have Hq := Lib.hid hq
    have Hq2 := Lib.hid hq2
    clear hO hF hq hq2
    by_cases hlt : k < s.size
    · have hix := sB_index s k hlt
      have hd := sB_drop s k hlt
      have hpc := fun W => ref_piece s k W hs hlt
      rw [hd] at hpc
      generalize sB s k = c at hix hd hpc
      have hc : c.toNat < 256 := c.toNat_lt
      have Hd := Lib.hid hd
      clear hd
      by_cases q1 : c.toNat = 34
      · have q1' : ((c.toNat : Int) == 34) = true := by simp [q1]
        have hstr := HO.out.toStr
        by_cases q2 : acc.length ≤ 2047
        · go_wp2
          go_ret3
          refine ⟨?_, HF.out.to_below fun j hj => by simp [behind]; omega⟩
          show Ending.returned (.tuple #[.string ⟨acc.toArray⟩, .int .i64 ((k : Int) + 1), .bool true]) = _
          rw [Hq.out q2, Hd.out, quoS_end q1]
          have hl := data_len s
          simp only [quoT, List.length_drop, hl]
          rw [show ((s.size - (s.size - (k + 1)) : Nat) : Int) = (k : Int) + 1 from by omega]
        · go_wp2
          go_ret3
          refine ⟨?_, HF.out.to_below fun j hj => by simp [behind]; omega⟩
          rw [Hq2.out (by omega)]
          rfl
      have q1' : ((c.toNat : Int) == 34) = false := by simp; omega
      have q1'' : ((c.toNat : Int) != 34) = true := by simp; omega
      by_cases q4 : acc.length = 2048
      · go_wp2
        go_ret3
        refine ⟨?_, HF.out.to_below fun j hj => by simp [behind]; omega⟩
        rw [Hq2.out (by omega)]
        rfl
      rcases he : pieceS (c :: List.drop (k + 1) s.data.toList) with _ | ⟨b, n⟩
      · have hn : quoS (c :: List.drop (k + 1) s.data.toList) acc = none := quoS_bad q1 he
        have Hn := Lib.hid hn
        rw [he] at hpc
        replace hpc : ∀ W : World, Calls Tryd.prog 104 #[.string s, .int .i64 k] W fun e w' => e = .returned (.tuple #[.int .u8 0, .int .i64 0]) ∧ W = w' := hpc
        clear he hn
        go_wp2_with (go_at_call 104; refine (hpc _).mono ?_; rintro e w1 ⟨rfl, rfl⟩)
        go_ret3
        refine ⟨?_, HF.out.to_below fun j hj => by simp [behind]; omega⟩
        rw [Hq.out (by omega), Hd.out, Hn.out]
        rfl
      · have hpos := pieceS_pos he
        have hk' : k + n ≤ s.size := by
          have := hpos.2
          simp only [List.length_cons, List.length_drop, data_len] at this
          omega
        have hn0 : 0 < n := hpos.1
        have hdd : (c :: List.drop (k + 1) s.data.toList).drop n = s.data.toList.drop (k + n) := by rw [← Hd.out, List.drop_drop]
        have hn : acc.length < 2047 → quoS (c :: List.drop (k + 1) s.data.toList) acc = quoS (s.data.toList.drop (k + n)) (acc ++ [b]) := fun h => by rw [← hdd]; exact quoS_step q1 h he
        have hn2 : 2047 ≤ acc.length → quoS (c :: List.drop (k + 1) s.data.toList) acc = none := fun h => quoS_long q1 h
        have Hn := Lib.hid hn
        have Hn2 := Lib.hid hn2
        rw [he] at hpc
        replace hpc : ∀ W : World, Calls Tryd.prog 104 #[.string s, .int .i64 k] W fun e w' => e = .returned (.tuple #[.int .u8 b.toNat, .int .i64 n]) ∧ W = w' := hpc
        clear he hn hn2 hpos hdd
        have hbb : b.toNat < 256 := b.toNat_lt
        have hz : ((n : Int) == 0) = false := by simp; omega
        go_wp2_with (first
          | (go_at_call 104; refine (hpc _).mono ?_; rintro e w1 ⟨rfl, rfl⟩)
          | (at_builtin; refine wpB_append _ [b] (.tmp 35) (.tmp 37) rfl rfl _ rfl 1 1 rfl rfl rfl HO.out HF.out (by simp; omega) (fun k h => Nat.le_trans HF.out.size h) ?_; intro v1 w2 hO1 hF1; clear HO HF))
        exact ⟨⟨k + n, acc ++ [b], hk', by omega, by go_num, by simp; omega, hO1, hF1, fun h => by rw [Hq.out (by omega), Hd.out, Hn.out (by simp at h; omega)], fun h => by rw [Hq.out (by omega), Hd.out, Hn2.out (by simp at h; omega)]⟩, by simp [intOf]; omega⟩
    · have hn : quoS (s.data.toList.drop k) acc = none := by rw [drop_none s k (by omega)]; rfl
      have Hn := Lib.hid hn
      clear hn
      go_wp2
      go_ret3
      refine ⟨?_, HF.out.to_below fun j hj => by simp [behind]; omega⟩
      by_cases q2 : acc.length ≤ 2047
      · rw [Hq.out q2, Hn.out]; rfl
      · rw [Hq2.out (by omega)]; rfl
end Go.Proofs.YtgnoiliaidfepaaDoor
