/- Contracts of value.quote, value.write and value.Print at what a source says. Contracts of value.write and value.Print at what a source says. -/
import Derived.Test.YthlfeiiolafonaaDoorPrintW
import Derived.Test.YthlfeiiolafonaaDoorQuoteLaw
import Derived.Test.YthlfeiiolafonaaDoorBld2
import Derived.Test.YthlfeiiolafonaaDoorMeasB
import Derived.StillTailTactics
set_option linter.unusedVariables false
set_option linter.unusedSimpArgs false
namespace Go.Proofs.YthlfeiiolafonaaDoor
open Go.RowKit Go.IntWalk

theorem BldTo.iterAt {b : Nat} {s : List UInt8} {w w1 : World} {it : Nat} {src : ByteArray} {pos : Nat} (h : BldTo b s w w1) (hit : w1.heap[it]? = some (.stringIter src pos)) (hge : w.heap.size ≤ it) (hb : b ≤ it) (pos' : Nat) : BldTo b s w (w1.iterAt it src pos') :=
  ⟨Lib.IsBuilderF.iterAt h.st hit pos', Lib.below_iterAt h.bel hb src pos', fun k o hk hkb ho => by
    have hlt := (Array.getElem?_eq_some_iff.1 hk).1
    rw [Lib.iterAt_other w1 it k src pos' (by omega)]
    exact h.kept k o hk hkb ho⟩
theorem BldTo.iter {b : Nat} {s : List UInt8} {w w1 : World} {it : Nat} {src : ByteArray} {pos : Nat} (h : BldTo b s w w1) (hit : w.heap[it]? = some (.stringIter src pos)) (hne : b < it) : w1.heap[it]? = some (.stringIter src pos) :=
  h.kept it _ hit (fun e => by injection e with e; omega) (fun c fz e => by cases e)
theorem iterPos_at {w : World} {it : Nat} {src : ByteArray} {pos : Nat} (hit : w.heap[it]? = some (.stringIter src pos)) : w.iterPos it = pos := by
  unfold World.iterPos
  rw [hit]
theorem bld_Byte' (b : Nat) (s : List UInt8) (c : UInt8) (z : Int) (hz : z = (c.toNat : Int)) (w : World) (h : BldSt b s w) (hlen : s.length + 1 ≤ 140737488355328) :
    Calls Tryd.prog 74 #[.pointer (some ⟨b, 0, none⟩), .int .u8 z] w fun e w' => e = .returned .nilIface ∧ BldTo b (s ++ [c]) w w' := hz ▸ bld_Byte b s c w h hlen
theorem bw_below (w : World) (e : TypeId) (s : ByteArray) : Below w.heap.size w (Lib.bytesWorld w e s) := ⟨rfl, rfl, rfl, by rw [Lib.bytesWorld_size]; omega, fun k hk => Lib.bytesWorld_at_old _ _ _ _ hk⟩
theorem bufB_below {b : Nat} {W W' : World} (hb : b < W.heap.size) (h : Below W.heap.size W W') : bufB b W' = bufB b W := by
  unfold bufB World.cell?
  rw [h.block b hb]
theorem BldSt.buf_lt {b k : Nat} {s : List UInt8} {W : World} (h : BldSt b s W) (hk : bufB b W = some k) : k < W.heap.size := by
  have : ∃ p, Lib.BuilderAtF 43 5 b b p (Lib.byteCells s) W := by
    rcases h with h | h
    · exact ⟨_, h⟩
    · exact ⟨_, h⟩
  obtain ⟨p, _, v, hbk, hown, _⟩ := this
  have c1 : W.cell? ⟨b, 1, none⟩ = some v := by rw [Lib.cell_of_heap hbk]; rfl
  unfold bufB at hk
  rw [c1] at hk
  exact (hown.lt k hk).2
theorem ext_size (s : ByteArray) (i n : Nat) (h : i + n ≤ s.size) : (s.extract i (i + n)).size = n := by
  simp
  omega
theorem ext_row (W : World) (s : ByteArray) (i n : Nat) (h : i + n ≤ s.size) : (∀ j, j < n → (Lib.bytesWorld W 5 (s.extract i (i + n))).cell? ⟨W.heap.size, j, none⟩ = some (.int .u8 (sB s (i + j)).toNat)) ∧ W.heap.size < (Lib.bytesWorld W 5 (s.extract i (i + n))).heap.size := by
  refine ⟨fun j hj => ?_, by rw [Lib.bytesWorld_size]; omega⟩
  have h1 := Lib.bytesWorld_cell W 5 (s.extract i (i + n)) j (by rw [ext_size s i n h]; exact hj)
  rw [h1]
  congr 3
  have : (s.extract i (i + n)).data.toList = (s.data.toList.drop i).take n := by
    rw [ByteArray.data_extract, Array.toList_extract, List.extract_eq_take_drop, show i + n - i = n by omega]
  simp only [sB, this]
  rw [List.getD_eq_getElem?_getD, List.getD_eq_getElem?_getD, List.getElem?_take, if_pos hj, List.getElem?_drop]
theorem bld_String2' (b : Nat) (s t : List UInt8) (u : ByteArray) (hu : u = ⟨t.toArray⟩) (w : World) (h : BldSt b s w) (hlen : s.length + t.length ≤ 140737488355328) :
    Calls Tryd.prog 23 #[.pointer (some ⟨b, 0, none⟩), .string u] w fun e w' => e = .returned (.tuple #[.int .i64 t.length, .nilIface]) ∧ BldTo b (s ++ t) w w' ∧ BldFar b w w' := hu ▸ bld_String2 b s t w h hlen
theorem u8_is (a : UInt8) (n : Nat) (h : n < 256) : (UInt8.ofNat n == a) = decide (a.toNat = n) := by
  rw [Bool.eq_iff_iff, beq_iff_eq, decide_eq_true_eq]
  constructor
  · rintro rfl
    simp [Nat.mod_eq_of_lt h]
  · intro h1
    rw [← h1]
    simp
theorem hp_fffd (s : ByteArray) (i : Nat) (hi : i < s.size) : Lib.hasPrefix (s.extract i s.size).data.toList [239, 191, 189] = fffdAt s i := by
  have hx : (s.extract i s.size).data.toList = s.data.toList.drop i := by
    rw [ByteArray.data_extract, Array.toList_extract, List.extract_eq_take_drop, List.take_of_length_le (by rw [List.length_drop, data_len]; exact Nat.le_refl _)]
  rw [hx]
  have hl : (s.data.toList.drop i).length = s.size - i := by rw [List.length_drop, data_len]
  have hg : ∀ j, i + j < s.size → s.get! (i + j) = (s.data.toList.drop i).getD j 0 := fun j hj => by
    rw [get_sB s (i + j) hj, sB, List.getD_eq_getElem?_getD, List.getD_eq_getElem?_getD, List.getElem?_drop]
  generalize s.data.toList.drop i = D at *
  unfold Lib.hasPrefix fffdAt
  match D, hl with
  | [], hl => rw [eq_comm, decide_eq_false (by simp at hl; omega)]; rfl
  | [a], hl => rw [eq_comm, decide_eq_false (by simp at hl; omega)]; simp [List.isPrefixOf]
  | [a, b], hl => rw [eq_comm, decide_eq_false (by simp at hl; omega)]; simp [List.isPrefixOf]
  | a :: b :: c :: r, hl =>
    have h3 : 3 ≤ s.size - i := by simp at hl; omega
    have g0 : s.get! i = a := hg 0 (by omega)
    have g1 : s.get! (i + 1) = b := hg 1 (by omega)
    have g2 : s.get! (i + 2) = c := hg 2 (by omega)
    rw [g0, g1, g2]
    have e0 := u8_is a 239 (by decide)
    have e1 := u8_is b 191 (by decide)
    have e2 := u8_is c 189 (by decide)
    rw [show UInt8.ofNat 239 = 239 from rfl] at e0
    rw [show UInt8.ofNat 191 = 191 from rfl] at e1
    rw [show UInt8.ofNat 189 = 189 from rfl] at e2
    rw [List.isPrefixOf, List.isPrefixOf, List.isPrefixOf, List.isPrefixOf, e0, e1, e2, Bool.eq_iff_iff]
    simp [h3]
theorem hp_call (s : ByteArray) (i : Nat) (hi : i < s.size) (w : World) : Calls Tryd.prog 62 #[.string (s.extract i s.size), .string ⟨#[239, 191, 189]⟩] w fun e w' => e = .returned (.bool (fffdAt s i)) ∧ w' = w := by
  have := Tryd.strings_HasPrefix (s.extract i s.size) ⟨#[239, 191, 189]⟩ w
  rwa [show (⟨#[239, 191, 189]⟩ : ByteArray).data.toList = [239, 191, 189] from rfl, hp_fffd s i hi] at this
theorem dig_index (n : Nat) (h : n < 16) (z : Int) (hz : z = (n : Int)) : ∀ W : World, (Instr.index 9 (.string ⟨#[48, 49, 50, 51, 52, 53, 54, 55, 56, 57, 97, 98, 99, 100, 101, 102]⟩) (.int .u8 z)).run Tryd.prog W = .ok (.int .u8 ((hexd n).toNat : Int)) W := by
  intro W
  subst hz
  have h0 : (0 : Int) ≤ (n : Int) := by omega
  have h1 : (n : Int) < 16 := by omega
  have key : ∀ n : Fin 16, (⟨#[48, 49, 50, 51, 52, 53, 54, 55, 56, 57, 97, 98, 99, 100, 101, 102]⟩ : ByteArray)[n.val]'(n.isLt) = hexd n.val := by decide
  have e : (⟨#[48, 49, 50, 51, 52, 53, 54, 55, 56, 57, 97, 98, 99, 100, 101, 102]⟩ : ByteArray)[n]'h = hexd n := key ⟨n, h⟩
  go_simp
theorem hexstr (c : UInt8) {h1 h2} : (⟨#[92, 120]⟩ ++ Utf8.encode (((⟨#[48, 49, 50, 51, 52, 53, 54, 55, 56, 57, 97, 98, 99, 100, 101, 102]⟩ : ByteArray)[((c.toNat : Int) / 16).toNat]'h1).toNat : Int)) ++ Utf8.encode (((⟨#[48, 49, 50, 51, 52, 53, 54, 55, 56, 57, 97, 98, 99, 100, 101, 102]⟩ : ByteArray)[((c.toNat : Int) % 16).toNat]'h2).toNat : Int) = ⟨[92, 120, hexd (c.toNat / 16), hexd (c.toNat % 16)].toArray⟩ := by
  have hc := c.toNat_lt
  rw [hexd_at (c.toNat / 16) (by omega) _ (by omega), hexd_at (c.toNat % 16) (by omega) _ (by omega), encode_hex _ (by omega), encode_hex _ (by omega)]
  rfl
set_option maxRecDepth 20000 in
set_option maxHeartbeats 4000000 in
theorem val_quote (s : ByteArray) (w : World) (hs : s.size ≤ 4096) :
    Calls Tryd.prog 73 #[.string s] w fun e w' => e = .returned (.string ⟨(quoteS s.data.toList).toArray⟩) ∧ Below w.heap.size w w' := by
  have HN := Lib.hid (bld_new w)
  have hlt0 : w.heap.size < (w.alloc (.cells #[.pointer none, .slice none 0 0] 43)).heap.size := by simp
  have H0 := Lib.hid hlt0
  clear hlt0
  go_enter Tryd.func73, Tryd.ntmps73
  go_wp2_with fail
  refine (bld_Byte' w.heap.size [] 34 34 rfl _ HN.out (by simp)).mono ?_
  rintro e1 w1 ⟨rfl, hT⟩
  have HT := Lib.hid hT
  clear hT
  go_wp2_with fail
  go_loopw [4] (fun _ wr => ∃ pos, pos ≤ s.size ∧ wr.heap[w1.heap.size]? = some (.stringIter s pos) ∧ BldTo w.heap.size (34 :: quoteL (s.data.toList.take pos)) (w.alloc (.cells #[.pointer none, .slice none 0 0] 43)) wr) (fun _ wr => s.size - wr.iterPos w1.heap.size)
  case atStart => exact ⟨0, Nat.zero_le _, World.iter_heap _ _ _, HT.out.al _⟩
  case round =>
    obtain ⟨pos, hpos, hit, hT⟩ := hrel
    have HTr := Lib.hid hT
    have Hit := Lib.hid hit
    clear hT
    have Hge := Lib.hid (show (w.alloc (.cells #[.pointer none, .slice none 0 0] 43)).heap.size ≤ w1.heap.size from HT.out.bel.size)
    have hp0 : (0 : Int) ≤ (pos : Int) := by omega
    have hp1 : (pos : Int) ≤ 4096 := by omega
    by_cases hlt : pos < s.size
    · have Hitr := Lib.hid hit
      by_cases hp : (sB s pos).toNat = 34
      · have hd := dec_low s pos hlt (by omega)
        have hnx := fun ty => Lib.run_next_any_at (P := Tryd.prog) wr w1.heap.size s pos ty hit hlt
        simp only [hd] at hnx
        have hst := quoteL_step s pos hlt
        have hqb : quoteB (sB s pos) = [92, sB s pos] := quoteB_a (.inl hp)
        rw [hqb] at hst
        have Hst := Lib.hid hst
        have Hln := Lib.hid (quoteL_take s (pos + 1) (by omega))
        have HTi := Lib.hid (HTr.out.iterAt hit Hge.out (Nat.le_of_lt (Nat.lt_of_lt_of_le H0.out Hge.out)) (pos + 1))
        have Hit1 := Lib.hid (Lib.iterAt_heap wr w1.heap.size s pos (pos + 1) hit)
        have Hbi := Lib.hid (Nat.lt_of_lt_of_le H0.out Hge.out)
        clear hd hqb hst hit Hit
        generalize sB s pos = c at *
        generalize quoteL (s.data.toList.take pos) = r at *
        have c0 : (32 : Int) ≤ (c.toNat : Int) := by omega
        have c1 : (c.toNat : Int) ≤ 126 := by omega
        have cw : IntKind.u8.wrap (c.toNat : Int) = (c.toNat : Int) := by simp [IntKind.wrap, IntKind.signed, IntKind.bits]; omega
        have q1 : ((c.toNat : Int) == 34) = true := by simp; omega
        clear hp
        go_wp2_with fail
        refine (bld_Byte' w.heap.size _ 92 92 rfl _ HTi.out.st (by have := Hln.out; rw [Hst.out] at this; simp only [List.length_append, List.length_cons, List.length_nil] at this ⊢; omega)).mono ?_
        rintro e1 w2 ⟨rfl, hT⟩
        have HTj := Lib.hid (HTi.out.trans hT)
        have Hit2 := Lib.hid (hT.iter Hit1.out Hbi.out)
        clear hT
        go_wp2_with fail
        try rw [cw]
        refine (bld_Byte' w.heap.size _ c _ rfl _ HTj.out.st (by have := Hln.out; rw [Hst.out] at this; simp only [List.length_append, List.length_cons, List.length_nil] at this ⊢; omega)).mono ?_
        rintro e1 w3 ⟨rfl, hT⟩
        have HTk := Lib.hid (HTj.out.trans hT)
        have Hit3 := Lib.hid (hT.iter Hit2.out Hbi.out)
        clear hT
        go_wp2_with fail
        exact ⟨⟨pos + 1, by omega, Hit3.out, by have := HTk.out; rw [Hst.out]; simpa using this⟩, by rw [iterPos_at Hit3.out, iterPos_at Hitr.out]; omega⟩
      by_cases hp2 : (sB s pos).toNat = 92
      · have hd := dec_low s pos hlt (by omega)
        have hnx := fun ty => Lib.run_next_any_at (P := Tryd.prog) wr w1.heap.size s pos ty hit hlt
        simp only [hd] at hnx
        have hst := quoteL_step s pos hlt
        have hqb : quoteB (sB s pos) = [92, sB s pos] := quoteB_a (.inr hp2)
        rw [hqb] at hst
        have Hst := Lib.hid hst
        have Hln := Lib.hid (quoteL_take s (pos + 1) (by omega))
        have HTi := Lib.hid (HTr.out.iterAt hit Hge.out (Nat.le_of_lt (Nat.lt_of_lt_of_le H0.out Hge.out)) (pos + 1))
        have Hit1 := Lib.hid (Lib.iterAt_heap wr w1.heap.size s pos (pos + 1) hit)
        have Hbi := Lib.hid (Nat.lt_of_lt_of_le H0.out Hge.out)
        clear hd hqb hst hit Hit
        generalize sB s pos = c at *
        generalize quoteL (s.data.toList.take pos) = r at *
        have c0 : (32 : Int) ≤ (c.toNat : Int) := by omega
        have c1 : (c.toNat : Int) ≤ 126 := by omega
        have cw : IntKind.u8.wrap (c.toNat : Int) = (c.toNat : Int) := by simp [IntKind.wrap, IntKind.signed, IntKind.bits]; omega
        have q1 : ((c.toNat : Int) == 34) = false := by simp; omega
        have q2 : ((c.toNat : Int) == 92) = true := by simp; omega
        clear hp hp2
        go_wp2_with fail
        refine (bld_Byte' w.heap.size _ 92 92 rfl _ HTi.out.st (by have := Hln.out; rw [Hst.out] at this; simp only [List.length_append, List.length_cons, List.length_nil] at this ⊢; omega)).mono ?_
        rintro e1 w2 ⟨rfl, hT⟩
        have HTj := Lib.hid (HTi.out.trans hT)
        have Hit2 := Lib.hid (hT.iter Hit1.out Hbi.out)
        clear hT
        go_wp2_with fail
        try rw [cw]
        refine (bld_Byte' w.heap.size _ c _ rfl _ HTj.out.st (by have := Hln.out; rw [Hst.out] at this; simp only [List.length_append, List.length_cons, List.length_nil] at this ⊢; omega)).mono ?_
        rintro e1 w3 ⟨rfl, hT⟩
        have HTk := Lib.hid (HTj.out.trans hT)
        have Hit3 := Lib.hid (hT.iter Hit2.out Hbi.out)
        clear hT
        go_wp2_with fail
        exact ⟨⟨pos + 1, by omega, Hit3.out, by have := HTk.out; rw [Hst.out]; simpa using this⟩, by rw [iterPos_at Hit3.out, iterPos_at Hitr.out]; omega⟩
      by_cases hp3 : 32 ≤ (sB s pos).toNat ∧ (sB s pos).toNat ≤ 126
      · have hd := dec_low s pos hlt (by omega)
        have hnx := fun ty => Lib.run_next_any_at (P := Tryd.prog) wr w1.heap.size s pos ty hit hlt
        simp only [hd] at hnx
        have hst := quoteL_step s pos hlt
        have hqb : quoteB (sB s pos) = [sB s pos] := quoteB_c (by omega) (by omega) (by omega)
        rw [hqb] at hst
        have Hst := Lib.hid hst
        have Hln := Lib.hid (quoteL_take s (pos + 1) (by omega))
        have HTi := Lib.hid (HTr.out.iterAt hit Hge.out (Nat.le_of_lt (Nat.lt_of_lt_of_le H0.out Hge.out)) (pos + 1))
        have Hit1 := Lib.hid (Lib.iterAt_heap wr w1.heap.size s pos (pos + 1) hit)
        have Hbi := Lib.hid (Nat.lt_of_lt_of_le H0.out Hge.out)
        clear hd hqb hst hit Hit
        generalize sB s pos = c at *
        generalize quoteL (s.data.toList.take pos) = r at *
        have c0 : (32 : Int) ≤ (c.toNat : Int) := by omega
        have c1 : (c.toNat : Int) ≤ 126 := by omega
        have cw : IntKind.u8.wrap (c.toNat : Int) = (c.toNat : Int) := by simp [IntKind.wrap, IntKind.signed, IntKind.bits]; omega
        have q1 : ((c.toNat : Int) == 34) = false := by simp; omega
        have q2 : ((c.toNat : Int) == 92) = false := by simp; omega
        clear hp hp2 hp3
        go_wp2_with fail
        have Hit2 := Lib.hid Hit1.out
        try rw [cw]
        refine (bld_Byte' w.heap.size _ c _ rfl _ HTi.out.st (by have := Hln.out; rw [Hst.out] at this; simp only [List.length_append, List.length_cons, List.length_nil] at this ⊢; omega)).mono ?_
        rintro e1 w3 ⟨rfl, hT⟩
        have HTk := Lib.hid (HTi.out.trans hT)
        have Hit3 := Lib.hid (hT.iter Hit2.out Hbi.out)
        clear hT
        go_wp2_with fail
        exact ⟨⟨pos + 1, by omega, Hit3.out, by have := HTk.out; rw [Hst.out]; simpa using this⟩, by rw [iterPos_at Hit3.out, iterPos_at Hitr.out]; omega⟩
      obtain ⟨c, n, hd, d34, d92, dpr, dmax, dn1, dn4, dle, dq, des, dy, dno⟩ := dec_hex s pos hlt (by omega) hp3
      have hnx := fun ty => Lib.run_next_any_at (P := Tryd.prog) wr w1.heap.size s pos ty hit hlt
      simp only [hd] at hnx
      have HTi := Lib.hid (HTr.out.iterAt hit Hge.out (Nat.le_of_lt (Nat.lt_of_lt_of_le H0.out Hge.out)) (pos + n))
      have Hit1 := Lib.hid (Lib.iterAt_heap wr w1.heap.size s pos (pos + n) hit)
      have Hbi := Lib.hid (Nat.lt_of_lt_of_le H0.out Hge.out)
      have Hdq := Lib.hid dq
      have Hln := Lib.hid (quoteL_take s (pos + n) dle)
      have c0 : (0 : Int) ≤ (c : Int) := by omega
      have c1 : (c : Int) ≤ 1114111 := by omega
      have q1 : ((c : Int) == 34) = false := by simp; omega
      have q2 : ((c : Int) == 92) = false := by simp; omega
      have Hdy := Lib.hid dy
      have Hdno := Lib.hid dno
      have kb := fun (W : World) (X : ByteArray) => Lib.run_convert_string_bytes (P := Tryd.prog) W 9 41 5 X Tryd.underlying9 Tryd.underlying41 Tryd.underlying5
      have z4 : (((Utf8.encode (c : Int)).size : Int)) ≤ 4 := by omega
      have z0 : (0 : Int) ≤ (((Utf8.encode (c : Int)).size : Int)) := by omega
      clear hd dq dy dno hit Hit d34 d92 hp hp2 hp3
      by_cases h32 : (32 : Int) ≤ (c : Int)
      · have h126 : ¬ (c : Int) ≤ 126 := by omega
        go_upto_region 11 with fail
        generalize Utf8.encode (c : Int) = E at *
        cases h65 : ((c : Int) == 65533) with
        | false =>
          have hz : E.size = n := (Hdno.out (by simp at h65 ⊢; omega)).symm
          rw [hz] at z4 z0
          go_wp2_with fail
          have HTw := Lib.hid (HTi.out.more (bw_below _ 5 (s.extract pos (pos + n))))
          have Hitw := Lib.hid (show (Lib.bytesWorld (wr.iterAt w1.heap.size s (pos + n)) 5 (s.extract pos (pos + n))).heap[w1.heap.size]? = some (.stringIter s (pos + n)) from (Lib.bytesWorld_at_old _ _ _ _ (Array.getElem?_eq_some_iff.1 Hit1.out).1).trans Hit1.out)
          have Hrow := Lib.hid (ext_row (wr.iterAt w1.heap.size s (pos + n)) s pos n dle)
          have Hbuf := Lib.hid (show bufB w.heap.size (Lib.bytesWorld (wr.iterAt w1.heap.size s (pos + n)) 5 (s.extract pos (pos + n))) ≠ some (wr.iterAt w1.heap.size s (pos + n)).heap.size from fun h => by
            rw [bufB_below HTi.out.st.lt (bw_below _ _ _)] at h
            exact absurd (BldSt.buf_lt HTi.out.st h) (Nat.lt_irrefl _))
          have Hbw := Lib.hid (show w.heap.size < (wr.iterAt w1.heap.size s (pos + n)).heap.size from HTi.out.st.lt)
          generalize grownCap _ _ _ _ = cap
          generalize (wr.iterAt w1.heap.size s (pos + n)).heap.size = BW at *
          generalize Lib.bytesWorld (wr.iterAt w1.heap.size s (pos + n)) 5 (s.extract pos (pos + n)) = WB at *
          clear kb hnx HTi Hit1
          go_loopw [54] (fun j wq => ∃ k : Nat, k ≤ n ∧ j = .int .i64 (k : Int) ∧ BldTo w.heap.size (34 :: quoteL (s.data.toList.take pos) ++ hexes s pos k) (w.alloc (.cells #[.pointer none, .slice none 0 0] 43)) wq ∧ wq.heap[w1.heap.size]? = some (.stringIter s (pos + n)) ∧ ((∀ j, j < n → wq.cell? ⟨BW, j, none⟩ = some (.int .u8 (sB s (pos + j)).toNat)) ∧ bufB w.heap.size wq ≠ some BW ∧ BW < wq.heap.size)) (fun j _ => n - (intOf j).toNat)
          case atStart => exact ⟨0, Nat.zero_le _, rfl, by rw [show hexes s pos 0 = [] from rfl, List.append_nil]; exact HTw.out, Hitw.out, Hrow.out.1, Hbuf.out, Hrow.out.2⟩
          case round =>
            obtain ⟨k, hk, rfl, hT, hitq, hrow, hbuf, hBW⟩ := hrel
            have HTq := Lib.hid hT
            have Hitq := Lib.hid hitq
            have Hrowq := Lib.hid hrow
            have Hbufq := Lib.hid hbuf
            have HBW := Lib.hid hBW
            clear hT hitq hrow hbuf hBW
            by_cases hkn : k < n
            · have hkA : (k : Int) < (n : Int) := by omega
              have hk0 : (0 : Int) ≤ (k : Int) := by omega
              have hcell := Hrowq.out k hkn
              have Hsx := Lib.hid (hexes_succ s pos k)
              have Hhl := Lib.hid (hexes_len s pos (k + 1))
              have Hlp := Lib.hid (show (34 :: quoteL (s.data.toList.take pos)).length ≤ 20000 by have := quoteL_take s pos (by omega); simp; omega)
              generalize hxg : sB s (pos + k) = x at Hsx hcell
              have hx0 : (0 : Int) ≤ (x.toNat : Int) := by omega
              have hx : x.toNat < 256 := x.toNat_lt
              have hand := u8_and15 x
              have hix1 := dig_index (x.toNat / 16) (by omega) ((x.toNat : Int) / 16) (by omega)
              have hix2 := dig_index (x.toNat % 16) (by omega) ((x.toNat : Int) % 16) (by omega)
              have he1 := encode_hex (x.toNat / 16) (by omega)
              have he2 := encode_hex (x.toNat % 16) (by omega)
              go_upto_region 16 with fail
              go_still_tail 10, (by kernel_rfl)
              change wpList _ _ _ _ _ wr.drew
              go_wp2_with fail
              refine (bld_String2' w.heap.size _ [92, 120, hexd (x.toNat / 16), hexd (x.toNat % 16)] _ rfl _ (HTq.out.st.below (drew_b _)) (by have h1 := Hhl.out; have h2 := Hlp.out; rw [Hsx.out] at h1; simp only [List.length_append, List.length_cons, List.length_nil] at h1 h2 ⊢; omega)).mono ?_
              rintro e1 w5 ⟨rfl, hT, hF⟩
              have HTn := Lib.hid ((HTq.out.more (drew_b _)).trans hT)
              have Hitn := Lib.hid (hT.iter (w := wr.drew) Hitq.out Hbi.out)
              have Hrn := Lib.hid (show ∀ j, j < n → w5.cell? ⟨BW, j, none⟩ = some (.int .u8 (sB s (pos + j)).toNat) from fun j hj => by
                rw [World.cell?_of_block (hF.blk BW HBW.out (Nat.ne_of_gt Hbw.out) Hbufq.out)]
                exact Hrowq.out j hj)
              have Hbn := Lib.hid (show bufB w.heap.size w5 ≠ some BW from fun h => by
                rcases hF.row BW h with h1 | h1
                · exact Hbufq.out h1
                · exact absurd HBW.out (Nat.not_lt.2 h1))
              have HBn := Lib.hid (Nat.lt_of_lt_of_le HBW.out hT.bel.size)
              clear hT hF hcell
              go_wp2_with fail
              exact ⟨⟨k + 1, by omega, by go_num, by rw [Hsx.out, ← List.append_assoc]; exact HTn.out, Hitn.out, Hrn.out, Hbn.out, HBn.out⟩, by simp [intOf]; omega⟩
            · have hkA : ¬ (k : Int) < (n : Int) := by omega
              have hke : k = n := by omega
              rw [hke] at HTq
              clear hke
              go_wp2_with fail
              exact ⟨⟨pos + n, by omega, Hitq.out, by rw [Hdq.out]; exact HTq.out⟩, by rw [iterPos_at Hitq.out, iterPos_at Hitr.out]; omega⟩
        | true =>
          have hc65 : c = 65533 := by simp at h65; omega
          go_wp2_with fail
          refine (hp_call s pos hlt _).mono ?_
          rintro e2 w2 ⟨rfl, rfl⟩
          cases hf : fffdAt s pos with
          | true =>
            have hz : E.size = n := (Hdno.out (by rw [hf]; simp)).symm
            rw [hz] at z4 z0
            go_wp2_with fail
            have HTw := Lib.hid (HTi.out.more (bw_below _ 5 (s.extract pos (pos + n))))
            have Hitw := Lib.hid (show (Lib.bytesWorld (wr.iterAt w1.heap.size s (pos + n)) 5 (s.extract pos (pos + n))).heap[w1.heap.size]? = some (.stringIter s (pos + n)) from (Lib.bytesWorld_at_old _ _ _ _ (Array.getElem?_eq_some_iff.1 Hit1.out).1).trans Hit1.out)
            have Hrow := Lib.hid (ext_row (wr.iterAt w1.heap.size s (pos + n)) s pos n dle)
            have Hbuf := Lib.hid (show bufB w.heap.size (Lib.bytesWorld (wr.iterAt w1.heap.size s (pos + n)) 5 (s.extract pos (pos + n))) ≠ some (wr.iterAt w1.heap.size s (pos + n)).heap.size from fun h => by
              rw [bufB_below HTi.out.st.lt (bw_below _ _ _)] at h
              exact absurd (BldSt.buf_lt HTi.out.st h) (Nat.lt_irrefl _))
            have Hbw := Lib.hid (show w.heap.size < (wr.iterAt w1.heap.size s (pos + n)).heap.size from HTi.out.st.lt)
            generalize grownCap _ _ _ _ = cap
            generalize (wr.iterAt w1.heap.size s (pos + n)).heap.size = BW at *
            generalize Lib.bytesWorld (wr.iterAt w1.heap.size s (pos + n)) 5 (s.extract pos (pos + n)) = WB at *
            clear kb hnx HTi Hit1
            go_loopw [54] (fun j wq => ∃ k : Nat, k ≤ n ∧ j = .int .i64 (k : Int) ∧ BldTo w.heap.size (34 :: quoteL (s.data.toList.take pos) ++ hexes s pos k) (w.alloc (.cells #[.pointer none, .slice none 0 0] 43)) wq ∧ wq.heap[w1.heap.size]? = some (.stringIter s (pos + n)) ∧ ((∀ j, j < n → wq.cell? ⟨BW, j, none⟩ = some (.int .u8 (sB s (pos + j)).toNat)) ∧ bufB w.heap.size wq ≠ some BW ∧ BW < wq.heap.size)) (fun j _ => n - (intOf j).toNat)
            case atStart => exact ⟨0, Nat.zero_le _, rfl, by rw [show hexes s pos 0 = [] from rfl, List.append_nil]; exact HTw.out, Hitw.out, Hrow.out.1, Hbuf.out, Hrow.out.2⟩
            case round =>
              obtain ⟨k, hk, rfl, hT, hitq, hrow, hbuf, hBW⟩ := hrel
              have HTq := Lib.hid hT
              have Hitq := Lib.hid hitq
              have Hrowq := Lib.hid hrow
              have Hbufq := Lib.hid hbuf
              have HBW := Lib.hid hBW
              clear hT hitq hrow hbuf hBW
              by_cases hkn : k < n
              · have hkA : (k : Int) < (n : Int) := by omega
                have hk0 : (0 : Int) ≤ (k : Int) := by omega
                have hcell := Hrowq.out k hkn
                have Hsx := Lib.hid (hexes_succ s pos k)
                have Hhl := Lib.hid (hexes_len s pos (k + 1))
                have Hlp := Lib.hid (show (34 :: quoteL (s.data.toList.take pos)).length ≤ 20000 by have := quoteL_take s pos (by omega); simp; omega)
                generalize hxg : sB s (pos + k) = x at Hsx hcell
                have hx0 : (0 : Int) ≤ (x.toNat : Int) := by omega
                have hx : x.toNat < 256 := x.toNat_lt
                have hand := u8_and15 x
                have hix1 := dig_index (x.toNat / 16) (by omega) ((x.toNat : Int) / 16) (by omega)
                have hix2 := dig_index (x.toNat % 16) (by omega) ((x.toNat : Int) % 16) (by omega)
                have he1 := encode_hex (x.toNat / 16) (by omega)
                have he2 := encode_hex (x.toNat % 16) (by omega)
                go_upto_region 16 with fail
                go_still_tail 10, (by kernel_rfl)
                change wpList _ _ _ _ _ wr.drew
                go_wp2_with fail
                refine (bld_String2' w.heap.size _ [92, 120, hexd (x.toNat / 16), hexd (x.toNat % 16)] _ rfl _ (HTq.out.st.below (drew_b _)) (by have h1 := Hhl.out; have h2 := Hlp.out; rw [Hsx.out] at h1; simp only [List.length_append, List.length_cons, List.length_nil] at h1 h2 ⊢; omega)).mono ?_
                rintro e1 w5 ⟨rfl, hT, hF⟩
                have HTn := Lib.hid ((HTq.out.more (drew_b _)).trans hT)
                have Hitn := Lib.hid (hT.iter (w := wr.drew) Hitq.out Hbi.out)
                have Hrn := Lib.hid (show ∀ j, j < n → w5.cell? ⟨BW, j, none⟩ = some (.int .u8 (sB s (pos + j)).toNat) from fun j hj => by
                  rw [World.cell?_of_block (hF.blk BW HBW.out (Nat.ne_of_gt Hbw.out) Hbufq.out)]
                  exact Hrowq.out j hj)
                have Hbn := Lib.hid (show bufB w.heap.size w5 ≠ some BW from fun h => by
                  rcases hF.row BW h with h1 | h1
                  · exact Hbufq.out h1
                  · exact absurd HBW.out (Nat.not_lt.2 h1))
                have HBn := Lib.hid (Nat.lt_of_lt_of_le HBW.out hT.bel.size)
                clear hT hF hcell
                go_wp2_with fail
                exact ⟨⟨k + 1, by omega, by go_num, by rw [Hsx.out, ← List.append_assoc]; exact HTn.out, Hitn.out, Hrn.out, Hbn.out, HBn.out⟩, by simp [intOf]; omega⟩
              · have hkA : ¬ (k : Int) < (n : Int) := by omega
                have hke : k = n := by omega
                rw [hke] at HTq
                clear hke
                go_wp2_with fail
                exact ⟨⟨pos + n, by omega, Hitq.out, by rw [Hdq.out]; exact HTq.out⟩, by rw [iterPos_at Hitq.out, iterPos_at Hitr.out]; omega⟩
          | false =>
            have hz : n = 1 := Hdy.out (by rw [hf, hc65]; rfl)
            subst hz
            go_wp2_with fail
            have HTw := Lib.hid (HTi.out.more (bw_below _ 5 (s.extract pos (pos + 1))))
            have Hitw := Lib.hid (show (Lib.bytesWorld (wr.iterAt w1.heap.size s (pos + 1)) 5 (s.extract pos (pos + 1))).heap[w1.heap.size]? = some (.stringIter s (pos + 1)) from (Lib.bytesWorld_at_old _ _ _ _ (Array.getElem?_eq_some_iff.1 Hit1.out).1).trans Hit1.out)
            have Hrow := Lib.hid (ext_row (wr.iterAt w1.heap.size s (pos + 1)) s pos 1 dle)
            have Hbuf := Lib.hid (show bufB w.heap.size (Lib.bytesWorld (wr.iterAt w1.heap.size s (pos + 1)) 5 (s.extract pos (pos + 1))) ≠ some (wr.iterAt w1.heap.size s (pos + 1)).heap.size from fun h => by
              rw [bufB_below HTi.out.st.lt (bw_below _ _ _)] at h
              exact absurd (BldSt.buf_lt HTi.out.st h) (Nat.lt_irrefl _))
            have Hbw := Lib.hid (show w.heap.size < (wr.iterAt w1.heap.size s (pos + 1)).heap.size from HTi.out.st.lt)
            generalize grownCap _ _ _ _ = cap
            generalize (wr.iterAt w1.heap.size s (pos + 1)).heap.size = BW at *
            generalize Lib.bytesWorld (wr.iterAt w1.heap.size s (pos + 1)) 5 (s.extract pos (pos + 1)) = WB at *
            clear kb hnx HTi Hit1
            go_loopw [54] (fun j wq => ∃ k : Nat, k ≤ 1 ∧ j = .int .i64 (k : Int) ∧ BldTo w.heap.size (34 :: quoteL (s.data.toList.take pos) ++ hexes s pos k) (w.alloc (.cells #[.pointer none, .slice none 0 0] 43)) wq ∧ wq.heap[w1.heap.size]? = some (.stringIter s (pos + 1)) ∧ ((∀ j, j < 1 → wq.cell? ⟨BW, j, none⟩ = some (.int .u8 (sB s (pos + j)).toNat)) ∧ bufB w.heap.size wq ≠ some BW ∧ BW < wq.heap.size)) (fun j _ => 1 - (intOf j).toNat)
            case atStart => exact ⟨0, Nat.zero_le _, rfl, by rw [show hexes s pos 0 = [] from rfl, List.append_nil]; exact HTw.out, Hitw.out, Hrow.out.1, Hbuf.out, Hrow.out.2⟩
            case round =>
              obtain ⟨k, hk, rfl, hT, hitq, hrow, hbuf, hBW⟩ := hrel
              have HTq := Lib.hid hT
              have Hitq := Lib.hid hitq
              have Hrowq := Lib.hid hrow
              have Hbufq := Lib.hid hbuf
              have HBW := Lib.hid hBW
              clear hT hitq hrow hbuf hBW
              by_cases hkn : k < 1
              · have hkA : (k : Int) < (1 : Int) := by omega
                have hk0 : (0 : Int) ≤ (k : Int) := by omega
                have hcell := Hrowq.out k hkn
                have Hsx := Lib.hid (hexes_succ s pos k)
                have Hhl := Lib.hid (hexes_len s pos (k + 1))
                have Hlp := Lib.hid (show (34 :: quoteL (s.data.toList.take pos)).length ≤ 20000 by have := quoteL_take s pos (by omega); simp; omega)
                generalize hxg : sB s (pos + k) = x at Hsx hcell
                have hx0 : (0 : Int) ≤ (x.toNat : Int) := by omega
                have hx : x.toNat < 256 := x.toNat_lt
                have hand := u8_and15 x
                have hix1 := dig_index (x.toNat / 16) (by omega) ((x.toNat : Int) / 16) (by omega)
                have hix2 := dig_index (x.toNat % 16) (by omega) ((x.toNat : Int) % 16) (by omega)
                have he1 := encode_hex (x.toNat / 16) (by omega)
                have he2 := encode_hex (x.toNat % 16) (by omega)
                go_upto_region 16 with fail
                go_still_tail 10, (by kernel_rfl)
                change wpList _ _ _ _ _ wr.drew
                go_wp2_with fail
                refine (bld_String2' w.heap.size _ [92, 120, hexd (x.toNat / 16), hexd (x.toNat % 16)] _ rfl _ (HTq.out.st.below (drew_b _)) (by have h1 := Hhl.out; have h2 := Hlp.out; rw [Hsx.out] at h1; simp only [List.length_append, List.length_cons, List.length_nil] at h1 h2 ⊢; omega)).mono ?_
                rintro e1 w5 ⟨rfl, hT, hF⟩
                have HTn := Lib.hid ((HTq.out.more (drew_b _)).trans hT)
                have Hitn := Lib.hid (hT.iter (w := wr.drew) Hitq.out Hbi.out)
                have Hrn := Lib.hid (show ∀ j, j < 1 → w5.cell? ⟨BW, j, none⟩ = some (.int .u8 (sB s (pos + j)).toNat) from fun j hj => by
                  rw [World.cell?_of_block (hF.blk BW HBW.out (Nat.ne_of_gt Hbw.out) Hbufq.out)]
                  exact Hrowq.out j hj)
                have Hbn := Lib.hid (show bufB w.heap.size w5 ≠ some BW from fun h => by
                  rcases hF.row BW h with h1 | h1
                  · exact Hbufq.out h1
                  · exact absurd HBW.out (Nat.not_lt.2 h1))
                have HBn := Lib.hid (Nat.lt_of_lt_of_le HBW.out hT.bel.size)
                clear hT hF hcell
                go_wp2_with fail
                exact ⟨⟨k + 1, by omega, by go_num, by rw [Hsx.out, ← List.append_assoc]; exact HTn.out, Hitn.out, Hrn.out, Hbn.out, HBn.out⟩, by simp [intOf]; omega⟩
              · have hkA : ¬ (k : Int) < (1 : Int) := by omega
                have hke : k = 1 := by omega
                rw [hke] at HTq
                clear hke
                go_wp2_with fail
                exact ⟨⟨pos + 1, by omega, Hitq.out, by rw [Hdq.out]; exact HTq.out⟩, by rw [iterPos_at Hitq.out, iterPos_at Hitr.out]; omega⟩
      · have h126 : ¬ (32 : Int) ≤ (c : Int) := h32
        have h65 : ((c : Int) == 65533) = false := by simp; omega
        go_upto_region 11 with fail
        generalize Utf8.encode (c : Int) = E at *
        have hz : E.size = n := (Hdno.out (by simp; omega)).symm
        rw [hz] at z4 z0
        go_wp2_with fail
        have HTw := Lib.hid (HTi.out.more (bw_below _ 5 (s.extract pos (pos + n))))
        have Hitw := Lib.hid (show (Lib.bytesWorld (wr.iterAt w1.heap.size s (pos + n)) 5 (s.extract pos (pos + n))).heap[w1.heap.size]? = some (.stringIter s (pos + n)) from (Lib.bytesWorld_at_old _ _ _ _ (Array.getElem?_eq_some_iff.1 Hit1.out).1).trans Hit1.out)
        have Hrow := Lib.hid (ext_row (wr.iterAt w1.heap.size s (pos + n)) s pos n dle)
        have Hbuf := Lib.hid (show bufB w.heap.size (Lib.bytesWorld (wr.iterAt w1.heap.size s (pos + n)) 5 (s.extract pos (pos + n))) ≠ some (wr.iterAt w1.heap.size s (pos + n)).heap.size from fun h => by
          rw [bufB_below HTi.out.st.lt (bw_below _ _ _)] at h
          exact absurd (BldSt.buf_lt HTi.out.st h) (Nat.lt_irrefl _))
        have Hbw := Lib.hid (show w.heap.size < (wr.iterAt w1.heap.size s (pos + n)).heap.size from HTi.out.st.lt)
        generalize grownCap _ _ _ _ = cap
        generalize (wr.iterAt w1.heap.size s (pos + n)).heap.size = BW at *
        generalize Lib.bytesWorld (wr.iterAt w1.heap.size s (pos + n)) 5 (s.extract pos (pos + n)) = WB at *
        clear kb hnx HTi Hit1
        go_loopw [54] (fun j wq => ∃ k : Nat, k ≤ n ∧ j = .int .i64 (k : Int) ∧ BldTo w.heap.size (34 :: quoteL (s.data.toList.take pos) ++ hexes s pos k) (w.alloc (.cells #[.pointer none, .slice none 0 0] 43)) wq ∧ wq.heap[w1.heap.size]? = some (.stringIter s (pos + n)) ∧ ((∀ j, j < n → wq.cell? ⟨BW, j, none⟩ = some (.int .u8 (sB s (pos + j)).toNat)) ∧ bufB w.heap.size wq ≠ some BW ∧ BW < wq.heap.size)) (fun j _ => n - (intOf j).toNat)
        case atStart => exact ⟨0, Nat.zero_le _, rfl, by rw [show hexes s pos 0 = [] from rfl, List.append_nil]; exact HTw.out, Hitw.out, Hrow.out.1, Hbuf.out, Hrow.out.2⟩
        case round =>
          obtain ⟨k, hk, rfl, hT, hitq, hrow, hbuf, hBW⟩ := hrel
          have HTq := Lib.hid hT
          have Hitq := Lib.hid hitq
          have Hrowq := Lib.hid hrow
          have Hbufq := Lib.hid hbuf
          have HBW := Lib.hid hBW
          clear hT hitq hrow hbuf hBW
          by_cases hkn : k < n
          · have hkA : (k : Int) < (n : Int) := by omega
            have hk0 : (0 : Int) ≤ (k : Int) := by omega
            have hcell := Hrowq.out k hkn
            have Hsx := Lib.hid (hexes_succ s pos k)
            have Hhl := Lib.hid (hexes_len s pos (k + 1))
            have Hlp := Lib.hid (show (34 :: quoteL (s.data.toList.take pos)).length ≤ 20000 by have := quoteL_take s pos (by omega); simp; omega)
            generalize hxg : sB s (pos + k) = x at Hsx hcell
            have hx0 : (0 : Int) ≤ (x.toNat : Int) := by omega
            have hx : x.toNat < 256 := x.toNat_lt
            have hand := u8_and15 x
            have hix1 := dig_index (x.toNat / 16) (by omega) ((x.toNat : Int) / 16) (by omega)
            have hix2 := dig_index (x.toNat % 16) (by omega) ((x.toNat : Int) % 16) (by omega)
            have he1 := encode_hex (x.toNat / 16) (by omega)
            have he2 := encode_hex (x.toNat % 16) (by omega)
            go_upto_region 16 with fail
            go_still_tail 10, (by kernel_rfl)
            change wpList _ _ _ _ _ wr.drew
            go_wp2_with fail
            refine (bld_String2' w.heap.size _ [92, 120, hexd (x.toNat / 16), hexd (x.toNat % 16)] _ rfl _ (HTq.out.st.below (drew_b _)) (by have h1 := Hhl.out; have h2 := Hlp.out; rw [Hsx.out] at h1; simp only [List.length_append, List.length_cons, List.length_nil] at h1 h2 ⊢; omega)).mono ?_
            rintro e1 w5 ⟨rfl, hT, hF⟩
            have HTn := Lib.hid ((HTq.out.more (drew_b _)).trans hT)
            have Hitn := Lib.hid (hT.iter (w := wr.drew) Hitq.out Hbi.out)
            have Hrn := Lib.hid (show ∀ j, j < n → w5.cell? ⟨BW, j, none⟩ = some (.int .u8 (sB s (pos + j)).toNat) from fun j hj => by
              rw [World.cell?_of_block (hF.blk BW HBW.out (Nat.ne_of_gt Hbw.out) Hbufq.out)]
              exact Hrowq.out j hj)
            have Hbn := Lib.hid (show bufB w.heap.size w5 ≠ some BW from fun h => by
              rcases hF.row BW h with h1 | h1
              · exact Hbufq.out h1
              · exact absurd HBW.out (Nat.not_lt.2 h1))
            have HBn := Lib.hid (Nat.lt_of_lt_of_le HBW.out hT.bel.size)
            clear hT hF hcell
            go_wp2_with fail
            exact ⟨⟨k + 1, by omega, by go_num, by rw [Hsx.out, ← List.append_assoc]; exact HTn.out, Hitn.out, Hrn.out, Hbn.out, HBn.out⟩, by simp [intOf]; omega⟩
          · have hkA : ¬ (k : Int) < (n : Int) := by omega
            have hke : k = n := by omega
            rw [hke] at HTq
            clear hke
            go_wp2_with fail
            exact ⟨⟨pos + n, by omega, Hitq.out, by rw [Hdq.out]; exact HTq.out⟩, by rw [iterPos_at Hitq.out, iterPos_at Hitr.out]; omega⟩
    · have hnx := fun ty => Lib.run_next_end_at (P := Tryd.prog) wr w1.heap.size s pos ty hit hlt
      have htk : s.data.toList.take pos = s.data.toList := List.take_of_length_le (by rw [data_len]; omega)
      rw [htk] at HTr
      have Hq := Lib.hid (show ((34 :: quoteL s.data.toList) ++ [34]).length ≤ 140737488355328 by have := quoteL_take s s.size (Nat.le_refl _); rw [List.take_of_length_le (by rw [data_len]; exact Nat.le_refl _)] at this; simp; omega)
      clear htk hit
      go_wp2_with fail
      refine (bld_Byte' w.heap.size _ 34 34 rfl _ HTr.out.st (by have := Hq.out; simp at this ⊢; omega)).mono ?_
      rintro e1 w2 ⟨rfl, hT⟩
      have HT2 := Lib.hid (HTr.out.trans hT)
      clear hT
      go_wp2_with fail
      refine (bld_Str w.heap.size _ _ HT2.out.st).mono ?_
      rintro e1 w3 ⟨rfl, hT⟩
      have HT3 := Lib.hid (HT2.out.trans hT)
      clear hT
      go_wp2_with fail
      go_ret
      exact ⟨rfl, (one_al _ _).trans (HT3.out.bel)⟩
end Go.Proofs.YthlfeiiolafonaaDoor
namespace Go.Proofs.YthlfeiiolafonaaDoor
open Go.RowKit Go.IntWalk

theorem decS_eq : ∀ (n : Nat), Lib.decDigits n = decS n := by
  intro n
  induction n using Nat.strongRecOn with
  | _ n ih =>
    unfold decS
    by_cases h : n < 10
    · rw [Lib.decDigits, dif_pos h, Nat.toDigits_of_lt_base h]
      have key : ∀ n : Fin 10, [UInt8.ofNat (48 + n.val)] = [Nat.digitChar n.val].map fun c => UInt8.ofNat c.toNat := by decide
      exact key ⟨n, h⟩
    · rw [Lib.decDigits, dif_neg h, Nat.toDigits_of_base_le (by omega) (by omega), List.map_append, ih (n / 10) (by omega)]
      have key : ∀ n : Fin 10, [UInt8.ofNat (48 + n.val)] = [Nat.digitChar n.val].map fun c => UInt8.ofNat c.toNat := by decide
      have := key ⟨n % 10, Nat.mod_lt _ (by omega)⟩
      simp only at this
      rw [this]
      rfl
theorem lit_text {x : V} (h : saidVal 13 x = true) : (x.kind = 0 ∨ x.kind = 1 ∨ x.kind = 2 ∨ x.kind = 3) ∧ (x.kind = 2 → 0 ≤ x.num) ∧ x.str.length ≤ 2048 ∧ rightB x = true := by
  unfold saidVal at h
  rw [if_pos rfl] at h
  simp only [Bool.and_eq_true, Bool.or_eq_true, decide_eq_true_eq] at h
  obtain ⟨h3, h2, hr⟩ := h
  have hr' := hr
  unfold rightB at hr
  rw [wS_eq] at hr
  split at hr
  · rename_i hc
    refine ⟨?_, fun h => by rcases h2 with h2 | h2 <;> omega, by omega, hr'⟩
    have hp := hc.1
    unfold plainS at hp
    by_cases h0 : x.kind = 0
    · exact .inl h0
    · by_cases h1 : x.kind = 1
      · exact .inr (.inl h1)
      · by_cases h2 : x.kind = 2
        · exact .inr (.inr (.inl h2))
        · by_cases h3' : x.kind = 3
          · exact .inr (.inr (.inr h3'))
          · rw [if_neg h0, if_neg h1, if_neg h2, if_neg h3'] at hp
            split at hp
            · omega
            · split at hp
              · omega
              · cases hp
  · simp at hr
open Go.Sort Go.Lib in
theorem below_grow (w : World) (k : Nat) (os : Array Obj) : Below w.heap.size w (grow (w.drewN k) os) :=
  ⟨rfl, rfl, rfl, by simp [grow, World.drewN], fun i hi => by simp [grow, World.drewN, Array.getElem?_append, hi]⟩
theorem fmt_int (n : Int) (h0 : 0 ≤ n) (h1 : n ≤ 9223372036854775807) (b : Nat) (w : World) (hp : PowAt b w) :
    Calls Tryd.prog 72 #[.int .i64 n, .int .i64 10] w fun e w' => e = .returned (.string ⟨(decS n.toNat).toArray⟩) ∧ Below w.heap.size w w' := by
  refine (Tryd.strconv_FormatInt_10 n (by omega) h1 w hp.1).mono ?_
  rintro e w' ⟨rfl, k, os, rfl⟩
  refine ⟨?_, below_grow _ _ _⟩
  unfold Lib.itoa
  rw [if_neg (by omega), decS_eq]
theorem fmt_true (w : World) : Calls Tryd.prog 71 #[.bool true] w fun e w' => e = .returned (.string ⟨[116, 114, 117, 101].toArray⟩) ∧ w' = w := by
  have := Tryd.strconv_FormatBool true w
  rwa [show Lib.formatBool true = [116, 114, 117, 101] by decide] at this
theorem fmt_false (w : World) : Calls Tryd.prog 71 #[.bool false] w fun e w' => e = .returned (.string ⟨[102, 97, 108, 115, 101].toArray⟩) ∧ w' = w := by
  have := Tryd.strconv_FormatBool false w
  rwa [show Lib.formatBool false = [102, 97, 108, 115, 101] by decide] at this
set_option maxRecDepth 20000 in
set_option maxHeartbeats 1000000 in
theorem val_write (x : V) (hx : saidVal 13 x = true) (v : Value) (ok : Nat → Prop) (b : Nat) (s : List UInt8) (w : World) (hv : RdV ok w v x) (hb : BldSt b s w) (hp : PowAt b w) (hroom : s.length + (litS x).length ≤ 140737488355328) :
    Calls Tryd.prog 56 #[.pointer (some ⟨b, 0, none⟩), v] w fun e w' => e = .returned (.tuple #[]) ∧ BldTo b (s ++ litS x) w w' := by
  obtain ⟨hk, h2, hs, _⟩ := lit_text hx
  obtain ⟨j0, j1, j2, _⟩ := hv.open
  obtain ⟨A, c, B, d, rfl, i0, i1, _⟩ := hv.form
  have HB := Lib.hid hb
  have HT := Lib.hid (BldTo.of hb (one_al w (.cells #[.int .i64 x.kind, .int .i64 x.num, .string ⟨x.str.toArray⟩, .slice A x.parts.length c, .slice B x.keys.length d] 25)))
  have HP := Lib.hid hp
  have Hroom := Lib.hid hroom
  cases x with
  | mk k n t l ks =>
  simp only [V.kind, V.num, V.str, V.parts, V.keys] at *
  clear hv hb hp hroom hx
  rcases hk with rfl | rfl | rfl | rfl
  · have HL := Lib.hid (show litS (.mk 0 n t l ks) = [117, 110, 105, 116] from rfl)
    go_enter Tryd.func56, Tryd.ntmps56
    go_wp2_with fail
    refine (bld_String b s [117, 110, 105, 116] _ HT.out.st (by have := Hroom.out; rw [HL.out] at this; exact this)).mono ?_
    rintro e1 w1 ⟨rfl, hT⟩
    have HT1 := Lib.hid (HT.out.trans hT)
    clear hT
    go_wp2_with fail
    go_end0
    exact ⟨rfl, by rw [HL.out]; exact HT1.out⟩
  · cases hn : (n == 1) with
    | true =>
      have hn' : n = 1 := by simpa using hn
      have HL := Lib.hid (show litS (.mk 1 n t l ks) = [116, 114, 117, 101] by simp [litS, V.kind, V.num, hn'])
      clear hn'
      have hn2 : ((V.mk 1 n t l ks).num == 1) = true := hn
      go_enter Tryd.func56, Tryd.ntmps56
      go_wp2_with fail
      refine (fmt_true _).mono ?_
      rintro e1 w1 ⟨rfl, rfl⟩
      go_wp2_with fail
      refine (bld_String b s [116, 114, 117, 101] _ HT.out.st (by have := Hroom.out; rw [HL.out] at this; exact this)).mono ?_
      rintro e1 w1 ⟨rfl, hT⟩
      have HT1 := Lib.hid (HT.out.trans hT)
      clear hT
      go_wp2_with fail
      go_end0
      exact ⟨rfl, by rw [HL.out]; exact HT1.out⟩
    | false =>
      have hn' : ¬ n = 1 := by simpa using hn
      have HL := Lib.hid (show litS (.mk 1 n t l ks) = [102, 97, 108, 115, 101] by simp [litS, V.kind, V.num, hn'])
      clear hn'
      have hn2 : ((V.mk 1 n t l ks).num == 1) = false := hn
      go_enter Tryd.func56, Tryd.ntmps56
      go_wp2_with fail
      refine (fmt_false _).mono ?_
      rintro e1 w1 ⟨rfl, rfl⟩
      go_wp2_with fail
      refine (bld_String b s [102, 97, 108, 115, 101] _ HT.out.st (by have := Hroom.out; rw [HL.out] at this; exact this)).mono ?_
      rintro e1 w1 ⟨rfl, hT⟩
      have HT1 := Lib.hid (HT.out.trans hT)
      clear hT
      go_wp2_with fail
      go_end0
      exact ⟨rfl, by rw [HL.out]; exact HT1.out⟩
  · have HL := Lib.hid (show litS (.mk 2 n t l ks) = decS n.toNat by simp [litS, V.kind, V.num])
    have h2' := h2 rfl
    go_enter Tryd.func56, Tryd.ntmps56
    go_wp2_with fail
    refine (fmt_int n h2' (by unfold i64ok at j1; omega) b _ (HP.out.lo HT.out.bel)).mono ?_
    rintro e1 w1 ⟨rfl, hb⟩
    have HT0 := Lib.hid (HT.out.more hb)
    clear hb
    go_wp2_with fail
    refine (bld_String b s _ _ HT0.out.st (by have := Hroom.out; rw [HL.out] at this; exact this)).mono ?_
    rintro e1 w1 ⟨rfl, hT⟩
    have HT1 := Lib.hid (HT0.out.trans hT)
    clear hT
    go_wp2_with fail
    go_end0
    exact ⟨rfl, by rw [HL.out]; exact HT1.out⟩
  · have HL := Lib.hid (show litS (.mk 3 n t l ks) = quoteS t by simp [litS, V.kind, V.str])
    go_enter Tryd.func56, Tryd.ntmps56
    go_wp2_with fail
    refine (val_quote ⟨t.toArray⟩ _ (by show t.length ≤ 4096; omega)).mono ?_
    rintro e1 w1 ⟨rfl, hb⟩
    have HT0 := Lib.hid (HT.out.more hb)
    clear hb
    go_wp2_with fail
    refine (bld_String b s (quoteS t) _ HT0.out.st (by have := Hroom.out; rw [HL.out] at this; exact this)).mono ?_
    rintro e1 w1 ⟨rfl, hT⟩
    have HT1 := Lib.hid (HT0.out.trans hT)
    clear hT
    go_wp2_with fail
    go_end0
    exact ⟨rfl, by rw [HL.out]; exact HT1.out⟩
set_option maxRecDepth 20000 in
set_option maxHeartbeats 1000000 in
theorem val_Print (x : V) (hx : saidVal 13 x = true) (v : Value) (ok : Nat → Prop) (b : Nat) (w : World) (hv : RdV ok w v x) (hp : PowAt b w) (hbw : b ≤ w.heap.size) :
    Calls Tryd.prog 39 #[v] w fun e w' => e = .returned (.string ⟨(litS x).toArray⟩) ∧ Below w.heap.size w w' := by
  obtain ⟨hk, h2, hs, hr⟩ := lit_text hx
  obtain ⟨j0, j1, j2, _⟩ := hv.open
  obtain ⟨A, c, B, d, rfl, i0, i1, _⟩ := hv.form
  have HV := Lib.hid hv
  have HP := Lib.hid hp
  have HR := Lib.hid (fun W hv => value_Right x (valV x A c B d) ok W hv)
  rw [hr] at HR
  have Hlen := Lib.hid (litS_len j2 j1)
  have HW := Lib.hid (fun (W : World) (hv : RdV ok W (valV x A c B d) x) (b' : Nat) (hb : BldSt b' [] W) (hp : PowAt b' W) => val_write x hx (valV x A c B d) ok b' [] W hv hb hp (by have := Hlen.out; simp; omega))
  have Hbw := Lib.hid hbw
  clear hv hp hx hk h2 hs hr
  go_enter Tryd.func39, Tryd.ntmps39
  go_wp2_with fail
  refine (HR.out _ (HV.out.below (one_al _ _))).mono ?_
  rintro e1 w1 ⟨rfl, hb⟩
  have HB := Lib.hid (bthen (one_al _ _) hb)
  obtain ⟨q0, q1, q2, q3, q4⟩ := boxv5 hb
  have p0 := fun X => bcell (one_al w1 X) q0
  have p1 := fun X => bcell (one_al w1 X) q1
  have p2 := fun X => bcell (one_al w1 X) q2
  have p3 := fun X => bcell (one_al w1 X) q3
  have p4 := fun X => bcell (one_al w1 X) q4
  clear hb
  go_wp2_with fail
  refine (HW.out _ (HV.out.below (bthen HB.out (one_al _ _))) w1.heap.size (bld_new w1) ⟨(HP.out.lo ((bthen HB.out (one_al _ _)).mono Hbw.out)).1, fun g hg => Nat.lt_of_lt_of_le (HP.out.2 g hg) (Nat.le_trans Hbw.out HB.out.size)⟩).mono ?_
  rintro e1 w2 ⟨rfl, hT⟩
  have HT := Lib.hid hT
  clear hT q0 q1 q2 q3 q4 p0 p1 p2 p3 p4
  go_wp2_with fail
  refine (bld_Str w1.heap.size _ _ HT.out.st).mono ?_
  rintro e1 w3 ⟨rfl, hT⟩
  have HT2 := Lib.hid (HT.out.trans hT)
  clear hT
  go_wp2_with fail
  go_ret
  exact ⟨rfl, bthen HB.out ((one_al _ _).trans HT2.out.bel)⟩
end Go.Proofs.YthlfeiiolafonaaDoor
