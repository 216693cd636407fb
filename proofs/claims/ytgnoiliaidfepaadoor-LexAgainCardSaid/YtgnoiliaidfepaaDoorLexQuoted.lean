/- Contracts of lex.quoted and of the reference's piece and quoted: both say quoS of what stands behind the quote. -/
import Derived.Test.YtgnoiliaidfepaaDoorMem
import Derived.Test.YtgnoiliaidfepaaDoorLexPiece
set_option linter.unusedVariables false
set_option linter.unusedSimpArgs false
namespace Go.Proofs.YtgnoiliaidfepaaDoor
open Go.RowKit

def quoV (n : Nat) (o : Option (List UInt8 × List UInt8)) : Ending := match o with
  | some (b, r) => .returned (.tuple #[.string ⟨b.toArray⟩, .int .i64 ((n - r.length : Nat) : Int)])
  | none => .returned (.tuple #[.string ⟨#[]⟩, .int .i64 0])
def behind (w : World) : Nat → Prop := fun k => w.heap.size ≤ k
theorem ext_drop (s : ByteArray) (k : Nat) : (s.extract k s.size).data.toList = s.data.toList.drop k := by
  rw [ByteArray.data_extract, Array.toList_extract, List.extract_eq_take_drop, List.take_of_length_le]
  rw [List.length_drop, data_len]
  exact Nat.le_refl _

set_option maxRecDepth 20000 in
set_option maxHeartbeats 1000000 in
theorem lex_quoted (s : ByteArray) (w : World) (hs : s.size ≤ 1048576) (h0 : 0 < s.size) :
    Calls Tryd.prog 69 #[.string s] w fun e w' => e = quoV s.size (quoS s.data.toList.tail []) ∧ Below w.heap.size w w' := by
  go_enter Tryd.func69, Tryd.ntmps69
  go_wp2
  go_loopw [4, 5] (fun v3 v4 wr => ∃ (k : Nat) (acc : List UInt8), k ≤ s.size ∧ 1 ≤ k ∧ v4 = .int .i64 k ∧ acc.length ≤ 2047 ∧ OwnB (behind w) wr v3 acc ∧ Fr (behind w) w wr ∧ quoS s.data.toList.tail [] = quoS (s.data.toList.drop k) acc) (fun _ i _ => s.size - (intOf i).toNat)
  case atStart => exact ⟨1, [], h0, Nat.le_refl _, rfl, by simp, OwnR.nil _ _ _ _, Fr.refl _ _, by rw [List.drop_one]⟩
  case round =>
    obtain ⟨k, acc, hk, hk1, rfl, hacc, hO, hF, hq⟩ := hrel
    obtain ⟨A, cap, rfl, hcap⟩ := hO.slice
    have HO := Lib.hid hO
    have HF := Lib.hid hF
    have Hq := Lib.hid hq
    clear hO hF hq
    by_cases hlt : k < s.size
    · have hix := sB_index s k hlt
      have hd := sB_drop s k hlt
      generalize sB s k = c at hix hd
      have hc : c.toNat < 256 := c.toNat_lt
      have Hd := Lib.hid hd
      clear hd
      by_cases q1 : c.toNat = 34
      · have q1' : ((c.toNat : Int) == 34) = true := by simp [q1]
        have hstr := HO.out.toStr
        go_wp2
        go_ret2
        refine ⟨?_, HF.out.to_below fun j hj => by simp [behind]; omega⟩
        show Ending.returned (.tuple #[.string ⟨acc.toArray⟩, .int .i64 ((k : Int) + 1)]) = _
        rw [Hq.out, Hd.out, quoS_end q1]
        have hl := data_len s
        simp only [quoV, List.length_drop, hl]
        rw [show ((s.size - (s.size - (k + 1)) : Nat) : Int) = (k : Int) + 1 from by omega]
      have q1' : ((c.toNat : Int) == 34) = false := by simp; omega
      by_cases q2 : c.toNat < 32
      · have hn : quoS (c :: List.drop (k + 1) s.data.toList) acc = none := quoS_bad q1 (by simp [pieceS, q2])
        have Hn := Lib.hid hn
        clear hn
        go_wp2
        go_ret2
        refine ⟨?_, HF.out.to_below fun j hj => by simp [behind]; omega⟩
        rw [Hq.out, Hd.out, Hn.out]
        rfl
      by_cases q3 : 126 < c.toNat
      · have hn : quoS (c :: List.drop (k + 1) s.data.toList) acc = none := quoS_bad q1 (by simp [pieceS, q3])
        have Hn := Lib.hid hn
        clear hn
        go_wp2
        go_ret2
        refine ⟨?_, HF.out.to_below fun j hj => by simp [behind]; omega⟩
        rw [Hq.out, Hd.out, Hn.out]
        rfl
      by_cases q4 : 2047 ≤ acc.length
      · have hn : quoS (c :: List.drop (k + 1) s.data.toList) acc = none := quoS_long q1 q4
        have Hn := Lib.hid hn
        clear hn
        go_wp2
        go_ret2
        refine ⟨?_, HF.out.to_below fun j hj => by simp [behind]; omega⟩
        rw [Hq.out, Hd.out, Hn.out]
        rfl
      by_cases q5 : c.toNat = 92
      · have q5' : ((c.toNat : Int) == 92) = true := by simp [q5]
        have hp : pieceS (c :: List.drop (k + 1) s.data.toList) = escS (List.drop (k + 1) s.data.toList) := by simp [pieceS, q5]
        have hcall : ∀ W : World, Calls Tryd.prog 102 #[.string (s.extract (k + 1) s.size)] W fun e w' => e = escV (escS (List.drop (k + 1) s.data.toList)) ∧ Below W.heap.size W w' := by
          intro W
          have h := lex_escaped (s.extract (k + 1) s.size) W (by rw [ByteArray.size_extract]; omega)
          rw [ext_drop] at h
          exact h
        rcases he : escS (List.drop (k + 1) s.data.toList) with _ | ⟨b, n⟩
        · have hn : quoS (c :: List.drop (k + 1) s.data.toList) acc = none := quoS_bad q1 (by rw [hp, he])
          have Hn := Lib.hid hn
          rw [he] at hcall
          replace hcall : ∀ W : World, Calls Tryd.prog 102 #[.string (s.extract (k + 1) s.size)] W fun e w' => e = .returned (.tuple #[.int .u8 0, .int .i64 0]) ∧ Below W.heap.size W w' := hcall
          clear hn hp he
          go_wp2_with (go_at_call 102; refine (hcall _).mono ?_; rintro e w1 ⟨rfl, hb1⟩)
          go_ret2
          refine ⟨?_, (HF.out.below hb1).to_below fun j hj => by simp [behind]; omega⟩
          rw [Hq.out, Hd.out, Hn.out]
          rfl
        · have hn := quoS_step (acc := acc) q1 (by omega) (hp.trans he)
          have hpos := pieceS_pos (hp.trans he)
          have hk' : k + n ≤ s.size := by
            have := hpos.2
            simp only [List.length_cons, List.length_drop, data_len] at this
            omega
          have hn0 : 0 < n := hpos.1
          have hdd : (c :: List.drop (k + 1) s.data.toList).drop n = s.data.toList.drop (k + n) := by rw [← Hd.out, List.drop_drop]
          rw [hdd] at hn
          have Hn := Lib.hid hn
          rw [he] at hcall
          replace hcall : ∀ W : World, Calls Tryd.prog 102 #[.string (s.extract (k + 1) s.size)] W fun e w' => e = .returned (.tuple #[.int .u8 b.toNat, .int .i64 n]) ∧ Below W.heap.size W w' := hcall
          clear hn hp he hpos hdd
          have hbb : b.toNat < 256 := b.toNat_lt
          have hz : ((n : Int) == 0) = false := by simp; omega
          go_wp2_with (first
            | (go_at_call 102; refine (hcall _).mono ?_; rintro e w1 ⟨rfl, hb1⟩)
            | (at_builtin; refine wpB_append _ [b] (.tmp 52) (.tmp 54) rfl rfl _ rfl 1 1 rfl rfl rfl (HO.out.below hb1) (HF.out.below hb1) (by simp; omega) (fun k h => Nat.le_trans (HF.out.below hb1).size h) ?_; intro v1 w2 hO1 hF1; clear HO HF))
          exact ⟨⟨k + n, acc ++ [b], hk', by omega, by go_num, by simp; omega, hO1, hF1, by rw [Hq.out, Hd.out, Hn.out]⟩, by simp [intOf]; omega⟩
      have q5' : ((c.toNat : Int) == 92) = false := by simp; omega
      have hn := quoS_step (acc := acc) (r := List.drop (k + 1) s.data.toList) q1 (by omega) (show pieceS (c :: List.drop (k + 1) s.data.toList) = some (c, 1) by simp [pieceS, q1, q5]; omega)
      rw [List.drop_succ_cons, List.drop_zero] at hn
      have Hn := Lib.hid hn
      clear hn
      go_wp2_with (at_builtin; refine wpB_append _ [c] (.tmp 52) (.tmp 54) rfl rfl _ rfl 1 1 rfl rfl rfl HO.out HF.out (by simp; omega) (fun k h => Nat.le_trans HF.out.size h) ?_; intro v1 w1 hO1 hF1; clear HO HF)
      exact ⟨⟨k + 1, acc ++ [c], hlt, by omega, by go_num, by simp; omega, hO1, hF1, by rw [Hq.out, Hd.out, Hn.out]⟩, by simp [intOf]; omega⟩
    · have hn : quoS (s.data.toList.drop k) acc = none := by rw [drop_none s k (by omega)]; rfl
      have Hn := Lib.hid hn
      clear hn
      go_wp2
      go_ret2
      refine ⟨?_, HF.out.to_below fun j hj => by simp [behind]; omega⟩
      rw [Hq.out, Hn.out]
      rfl
end Go.Proofs.YtgnoiliaidfepaaDoor
