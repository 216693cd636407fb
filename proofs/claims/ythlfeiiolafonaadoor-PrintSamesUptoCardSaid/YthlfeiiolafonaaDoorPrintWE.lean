/- Contracts of the writer's expr$1 and expr, kind by kind. Printed by gen_we.py. -/
import Derived.Test.YthlfeiiolafonaaDoorPrintW
import Derived.Test.YthlfeiiolafonaaDoorLitB
import Derived.Test.YthlfeiiolafonaaDoorLexIsName
set_option linter.unusedVariables false
set_option linter.unusedSimpArgs false
namespace Go.Proofs.YthlfeiiolafonaaDoor
open Go.RowKit Go.IntWalk

theorem ba_app (a b : List UInt8) : (⟨a.toArray⟩ ++ ⟨b.toArray⟩ : ByteArray) = ⟨(a ++ b).toArray⟩ := by
  apply ByteArray.ext
  simp [ByteArray.data_append]
theorem ba_app3 (a b c : List UInt8) : (⟨a.toArray⟩ ++ ⟨b.toArray⟩ ++ ⟨c.toArray⟩ : ByteArray) = ⟨(a ++ b ++ c).toArray⟩ := by rw [ba_app, ba_app]
theorem w_partT (m : Nat) (H : ExprOk m) (n : N) (j : Nat) (hj : j < n.kids.length) (hm : SizeOf.sizeOf n.kids[j] < m) (hR : ∃ o, rightN o n.kids[j] = true) (hK : exprK n.kids[j].kind = true ∨ n.kids[j].kind = 20) (v : Value) (W : World) (b : Nat) (s : List UInt8) (i : Int) (hv : RdN (fun k => k < b) W v n) (hB : BldSt b s W) (hP : PowAt b W) (hroom : s.length + (partT n.kind n.text j j n.kids).length ≤ 70368744177664) :
    Calls Tryd.prog 42 #[.agg #[.pointer (some ⟨b, 0, none⟩), .int .i64 i], v, .int .i64 (j : Int)] W fun e W' => e = .returned (.tuple #[]) ∧ BldTo b (s ++ partT n.kind n.text j j n.kids) W W' := by
  have h := partT_at (k := n.kind) (t := n.text) (i := j) hj
  rw [h] at hroom ⊢
  exact w_part m H n j hj hm hR hK v W b s i hv hB hP hroom
set_option maxRecDepth 20000 in
set_option maxHeartbeats 2000000 in
theorem w_exprs (m : Nat) (H : ExprOk m) (l : List N) (hm : ∀ n ∈ l, SizeOf.sizeOf n < m) (hR : ∀ n ∈ l, ∃ o, rightN o n = true) (hK : ∀ n ∈ l, exprK n.kind = true ∨ n.kind = 20) (K : Option Addr) (e : Nat) (gw gn : Nat) (c0 c1 c2 c3 c4 c5 c6 c7 c9 : Value) (W : World) (b : Nat) (s : List UInt8) (i : Int) (op en : List UInt8)
    (hW : HeldW gw b i W) (hN : HeldN gn c0 c1 c2 c3 c4 c5 c6 c7 (.slice K l.length e) c9 W) (hgw : b < gw) (hgn : b < gn) (hl : RdNs (fun k => k < b) W (.slice K l.length e) 0 l) (hlen : l.length ≤ 16777216) (hB : BldSt b s W) (hP : PowAt b W) (hroom : s.length + (op.length + (rowT 0 l).length + en.length) ≤ 70368744177664) :
    Calls Tryd.prog 38 #[.string ⟨op.toArray⟩, .string ⟨en.toArray⟩, .pointer (some ⟨gw, 0, none⟩), .pointer (some ⟨gn, 0, none⟩)] W fun e W' => e = .returned (.tuple #[]) ∧ BldTo b (s ++ op ++ rowT 0 l ++ en) W W' := by
  have HB := Lib.hid hB
  have HPw := Lib.hid hP
  have HW := Lib.hid hW
  have HX := Lib.hid hN
  have Hgw := Lib.hid hgw
  have Hgn := Lib.hid hgn
  have Hrm := Lib.hid hroom
  have HRow := Lib.hid (fun (W1 : World) (s1 : List UInt8) (hb : Below b W W1) (hB1 : BldSt b s1 W1) (hr : s1.length + (rowT 0 l).length ≤ 70368744177664) => w_row m H l hm hR hK K e W1 b s1 i (hl.lo hb) hlen hB1 (hP.lo hb) hr)
  obtain ⟨q0, q1⟩ := HeldW.facts hW
  clear hm hR hK hW hN hgw hgn hl hB hP hroom H
  go_enter Tryd.func38, Tryd.ntmps38
  go_wp2_with fail
  refine (bld_String b s op _ HB.out (by have := Hrm.out; omega)).mono ?_
  rintro e1 w1 ⟨rfl, hT⟩
  have HT := Lib.hid hT
  have HW1 := Lib.hid (HeldW.to HW.out Hgw.out hT)
  have HX1 := Lib.hid (HeldN.to HX.out Hgn.out hT)
  clear hT q0 q1
  obtain ⟨q0, q1⟩ := HeldW.facts HW1.out
  obtain ⟨x0, x1, x2, x3, x4, x5, x6, x7, x8, x9⟩ := HeldN.facts HX1.out
  clear x0 x1 x2 x3 x4 x5 x6 x7 x9
  go_wp2_with fail
  refine (HRow.out _ (s ++ op) HT.out.bel HT.out.st (by have := Hrm.out; rw [List.length_append]; omega)).mono ?_
  rintro e1 w2 ⟨rfl, hT⟩
  have HT2 := Lib.hid (HT.out.trans hT)
  have HW2 := Lib.hid (HeldW.to HW1.out Hgw.out hT)
  clear hT q0 q1 x8
  obtain ⟨q0, q1⟩ := HeldW.facts HW2.out
  go_wp2_with fail
  refine (bld_String b (s ++ op ++ rowT 0 l) en _ HT2.out.st (by have := Hrm.out; rw [List.length_append, List.length_append]; omega)).mono ?_
  rintro e1 w3 ⟨rfl, hT⟩
  have HT3 := Lib.hid (HT2.out.trans hT)
  clear hT q0 q1
  go_wp2_with fail
  go_end0
  exact ⟨rfl, HT3.out⟩
theorem sz_mem {n x : N} (h : x ∈ n.kids) : SizeOf.sizeOf x < SizeOf.sizeOf n := by
  obtain ⟨j, hj, rfl⟩ := List.mem_iff_getElem.1 h
  exact N.sz_kid hj
theorem all_kinds {l : List N} (h : (l.map N.kind).all exprK = true) : ∀ x ∈ l, exprK x.kind = true ∨ x.kind = 20 := by
  intro x hx
  rw [List.all_map, List.all_eq_true] at h
  exact .inl (h x hx)
theorem all_pairs {l : List N} (h : (l.map N.kind).all (· == 20) = true) : ∀ x ∈ l, exprK x.kind = true ∨ x.kind = 20 := by
  intro x hx
  rw [List.all_map, List.all_eq_true] at h
  exact .inr (by simpa using h x hx)

theorem kids_of {ok : Nat → Prop} {w : World} {k : Int} {t : List UInt8} {x : V} {f : Bool} {l : List N} {a : Int} {c0 c1 c2 c3 c4 : Value} {K : Option Addr} {m e : Nat} {cf ca : Value} (h : RdN ok w (.agg #[.int .i64 k, .string ⟨t.toArray⟩, c0, c1, c2, c3, c4, cf, .slice K m e, ca]) (.mk k t x f l a)) : RdNs ok w (.slice K m e) 0 l := by
  unfold RdN at h
  obtain ⟨h1, h2, h3, d0, d1, d2, d3, d4, lv, hv, h5, h6, h7⟩ := h
  injection hv with hv
  simp only [Array.mk.injEq, List.cons.injEq, and_true] at hv
  obtain ⟨_, _, _, _, _, _, _, _, rfl, _⟩ := hv
  exact h7
theorem val_of {ok : Nat → Prop} {w : World} {k : Int} {t : List UInt8} {x : V} {f : Bool} {l : List N} {a : Int} {c0 c1 c2 c3 c4 : Value} {K : Option Addr} {m e : Nat} {cf ca : Value} (h : RdN ok w (.agg #[.int .i64 k, .string ⟨t.toArray⟩, c0, c1, c2, c3, c4, cf, .slice K m e, ca]) (.mk k t x f l a)) : RdV ok w (.agg #[c0, c1, c2, c3, c4]) x := by
  unfold RdN at h
  obtain ⟨h1, h2, h3, d0, d1, d2, d3, d4, lv, hv, h5, h6, h7⟩ := h
  injection hv with hv
  simp only [Array.mk.injEq, List.cons.injEq, and_true] at hv
  obtain ⟨_, _, rfl, rfl, rfl, rfl, rfl, _, _, _⟩ := hv
  exact h5

set_option maxRecDepth 20000 in
set_option maxHeartbeats 2000000 in
theorem w_expr_13 (t : List UInt8) (x : V) (f : Bool) (l : List N) (a : Int) (H : ExprOk (SizeOf.sizeOf (N.mk 13 t x f l a))) (A B K : Option Addr) (c d e : Nat) (W : World) (b : Nat) (s : List UInt8) (i : Int) (hv : RdN (fun k => k < b) W (.agg #[.int .i64 13, .string ⟨t.toArray⟩, .int .i64 x.kind, .int .i64 x.num, .string ⟨x.str.toArray⟩, .slice A x.parts.length c, .slice B x.keys.length d, .bool f, .slice K l.length e, .int .i64 a]) (N.mk 13 t x f l a)) (hr : ∃ o, rightN o (N.mk 13 t x f l a) = true) (hB : BldSt b s W) (hP : PowAt b W) (hroom : s.length + (exprT (N.mk 13 t x f l a)).length ≤ 70368744177664) :
    Calls Tryd.prog 21 #[.agg #[.pointer (some ⟨b, 0, none⟩), .int .i64 i], .agg #[.int .i64 13, .string ⟨t.toArray⟩, .int .i64 x.kind, .int .i64 x.num, .string ⟨x.str.toArray⟩, .slice A x.parts.length c, .slice B x.keys.length d, .bool f, .slice K l.length e, .int .i64 a]] W fun e W' => e = .returned (.tuple #[]) ∧ BldTo b (s ++ exprT (N.mk 13 t x f l a)) W W' := by
  have hx : exprT (N.mk 13 t x f l a) = litS x := by rw [exprT]; rfl
  obtain ⟨o, hr⟩ := hr
  obtain ⟨hsd, hsh⟩ := right_said hr
  have hkr := right_kids hr
  obtain ⟨A', c', B', d', K', e', hve, hn⟩ := hv.form
  have htl : t.length ≤ 16777216 := hn.text
  have hlen : l.length ≤ 16777216 := hn.len
  have hsz := fun (y : N) (hy : y ∈ l) => sz_mem (n := (N.mk 13 t x f l a)) hy
  clear hve hn
  simp only [N.kind, N.kids, N.text] at hsh hkr
  rw [hx] at hroom
  have HTx := Lib.hid hx
  have Hrm := Lib.hid hroom
  have HB := Lib.hid hB
  have HPw := Lib.hid hP
  have HV := Lib.hid hv
  have HT0 := Lib.hid (BldTo.of hB (two_al W (.cells #[.pointer (some ⟨b, 0, none⟩), .int .i64 i] 45) (.cells #[.int .i64 13, .string ⟨t.toArray⟩, .int .i64 x.kind, .int .i64 x.num, .string ⟨x.str.toArray⟩, .slice A x.parts.length c, .slice B x.keys.length d, .bool f, .slice K l.length e, .int .i64 a] 28)))
  have HW0 := Lib.hid (show HeldW W.heap.size b i ((W.alloc (.cells #[.pointer (some ⟨b, 0, none⟩), .int .i64 i] 45)).alloc (.cells #[.int .i64 13, .string ⟨t.toArray⟩, .int .i64 x.kind, .int .i64 x.num, .string ⟨x.str.toArray⟩, .slice A x.parts.length c, .slice B x.keys.length d, .bool f, .slice K l.length e, .int .i64 a] 28)) from Held.below (Held.at rfl) (one_al _ _))
  have HX0 := Lib.hid (show HeldN (W.heap.size + 1) _ _ _ _ _ _ _ _ _ _ ((W.alloc (.cells #[.pointer (some ⟨b, 0, none⟩), .int .i64 i] 45)).alloc (.cells #[.int .i64 13, .string ⟨t.toArray⟩, .int .i64 x.kind, .int .i64 x.num, .string ⟨x.str.toArray⟩, .slice A x.parts.length c, .slice B x.keys.length d, .bool f, .slice K l.length e, .int .i64 a] 28)) from Held.at (by simp))
  have Hbw := Lib.hid hB.lt
  have Hbn := Lib.hid (Nat.lt_succ_of_lt hB.lt)
  have hkids : RdNs (fun k => k < b) W (.slice K l.length e) 0 l := kids_of hv
  have HKd := Lib.hid hkids

  have hsv : saidVal 13 x = true := by
    unfold saidS at hsd
    simp only [Bool.and_eq_true, N.kind, N.val] at hsd
    exact hsd.2.1
  have HPr := Lib.hid (fun (W1 : World) (hb : Below b W W1) (hbs : b ≤ W1.heap.size) => val_Print x hsv _ (fun k => k < b) b W1 ((val_of hv).fr (fr_of_below hb) (fun k _ h1 h2 => by omega)) (hP.lo hb) hbs)
  clear hsv
  clear hv hB hP hr hx hroom hkids hsd hsh hkr hsz H
  go_enter Tryd.func21, Tryd.ntmps21
  go_upto_region 4 with fail
  obtain ⟨q0, q1⟩ := HeldW.facts HW0.out
  obtain ⟨x0, x1, x2, x3, x4, x5, x6, x7, x8, x9⟩ := HeldN.facts HX0.out
  go_region_with (first
    | (go_at_call 39; refine (HPr.out _ HT0.out.bel.drew (Nat.le_of_lt (by have := HT0.out.st.lt; exact this))).mono ?_; rintro e1 w1 ⟨rfl, hb⟩; have HT1 := Lib.hid ((HT0.out.more (drew_b _)).more hb); have HW1 := Lib.hid (Held.below (Held.below HW0.out (drew_b _)) hb); obtain ⟨z0, z1⟩ := HeldW.facts HW1.out; clear hb)
    | (go_at_call 23; refine (bld_String b s (litS x) _ HT1.out.st (by have := Hrm.out; omega)).mono ?_; rintro e2 w2 ⟨rfl, hT⟩; have HT2 := Lib.hid (HT1.out.trans hT); clear hT)
    | fail)
  all_goals go_wp2_with fail
  all_goals go_end0
  all_goals exact ⟨rfl, by rw [HTx.out]; exact HT2.out⟩
set_option maxRecDepth 20000 in
set_option maxHeartbeats 2000000 in
theorem w_expr_14 (t : List UInt8) (x : V) (f : Bool) (l : List N) (a : Int) (H : ExprOk (SizeOf.sizeOf (N.mk 14 t x f l a))) (A B K : Option Addr) (c d e : Nat) (W : World) (b : Nat) (s : List UInt8) (i : Int) (hv : RdN (fun k => k < b) W (.agg #[.int .i64 14, .string ⟨t.toArray⟩, .int .i64 x.kind, .int .i64 x.num, .string ⟨x.str.toArray⟩, .slice A x.parts.length c, .slice B x.keys.length d, .bool f, .slice K l.length e, .int .i64 a]) (N.mk 14 t x f l a)) (hr : ∃ o, rightN o (N.mk 14 t x f l a) = true) (hB : BldSt b s W) (hP : PowAt b W) (hroom : s.length + (exprT (N.mk 14 t x f l a)).length ≤ 70368744177664) :
    Calls Tryd.prog 21 #[.agg #[.pointer (some ⟨b, 0, none⟩), .int .i64 i], .agg #[.int .i64 14, .string ⟨t.toArray⟩, .int .i64 x.kind, .int .i64 x.num, .string ⟨x.str.toArray⟩, .slice A x.parts.length c, .slice B x.keys.length d, .bool f, .slice K l.length e, .int .i64 a]] W fun e W' => e = .returned (.tuple #[]) ∧ BldTo b (s ++ exprT (N.mk 14 t x f l a)) W W' := by
  have hx : exprT (N.mk 14 t x f l a) = t := by rw [exprT]; rfl
  obtain ⟨o, hr⟩ := hr
  obtain ⟨hsd, hsh⟩ := right_said hr
  have hkr := right_kids hr
  obtain ⟨A', c', B', d', K', e', hve, hn⟩ := hv.form
  have htl : t.length ≤ 16777216 := hn.text
  have hlen : l.length ≤ 16777216 := hn.len
  have hsz := fun (y : N) (hy : y ∈ l) => sz_mem (n := (N.mk 14 t x f l a)) hy
  clear hve hn
  simp only [N.kind, N.kids, N.text] at hsh hkr
  rw [hx] at hroom
  have HTx := Lib.hid hx
  have Hrm := Lib.hid hroom
  have HB := Lib.hid hB
  have HPw := Lib.hid hP
  have HV := Lib.hid hv
  have HT0 := Lib.hid (BldTo.of hB (two_al W (.cells #[.pointer (some ⟨b, 0, none⟩), .int .i64 i] 45) (.cells #[.int .i64 14, .string ⟨t.toArray⟩, .int .i64 x.kind, .int .i64 x.num, .string ⟨x.str.toArray⟩, .slice A x.parts.length c, .slice B x.keys.length d, .bool f, .slice K l.length e, .int .i64 a] 28)))
  have HW0 := Lib.hid (show HeldW W.heap.size b i ((W.alloc (.cells #[.pointer (some ⟨b, 0, none⟩), .int .i64 i] 45)).alloc (.cells #[.int .i64 14, .string ⟨t.toArray⟩, .int .i64 x.kind, .int .i64 x.num, .string ⟨x.str.toArray⟩, .slice A x.parts.length c, .slice B x.keys.length d, .bool f, .slice K l.length e, .int .i64 a] 28)) from Held.below (Held.at rfl) (one_al _ _))
  have HX0 := Lib.hid (show HeldN (W.heap.size + 1) _ _ _ _ _ _ _ _ _ _ ((W.alloc (.cells #[.pointer (some ⟨b, 0, none⟩), .int .i64 i] 45)).alloc (.cells #[.int .i64 14, .string ⟨t.toArray⟩, .int .i64 x.kind, .int .i64 x.num, .string ⟨x.str.toArray⟩, .slice A x.parts.length c, .slice B x.keys.length d, .bool f, .slice K l.length e, .int .i64 a] 28)) from Held.at (by simp))
  have Hbw := Lib.hid hB.lt
  have Hbn := Lib.hid (Nat.lt_succ_of_lt hB.lt)
  have hkids : RdNs (fun k => k < b) W (.slice K l.length e) 0 l := kids_of hv
  have HKd := Lib.hid hkids

  clear hv hB hP hr hx hroom hkids hsd hsh hkr hsz H
  go_enter Tryd.func21, Tryd.ntmps21
  obtain ⟨q0, q1⟩ := HeldW.facts HW0.out
  obtain ⟨x0, x1, x2, x3, x4, x5, x6, x7, x8, x9⟩ := HeldN.facts HX0.out
  go_wp2_with fail
  refine (bld_String b s t _ HT0.out.st (by have := Hrm.out; (try simp only [List.length_append, List.length_cons, List.length_nil] at this ⊢); omega)).mono ?_
  rintro e1 w1 ⟨rfl, hT⟩
  have HT1 := Lib.hid (HT0.out.trans hT)
  have HW1 := Lib.hid (HeldW.to HW0.out Hbw.out hT)
  have HX1 := Lib.hid (HeldN.to HX0.out Hbn.out hT)
  clear hT q0 q1 x0 x1 x2 x3 x4 x5 x6 x7 x8 x9
  obtain ⟨q0, q1⟩ := HeldW.facts HW1.out
  obtain ⟨x0, x1, x2, x3, x4, x5, x6, x7, x8, x9⟩ := HeldN.facts HX1.out
  go_wp2_with fail
  go_end0
  exact ⟨rfl, by rw [HTx.out]; have := HT1.out; simpa using this⟩
set_option maxRecDepth 20000 in
set_option maxHeartbeats 2000000 in
theorem w_expr_15 (t : List UInt8) (x : V) (f : Bool) (l : List N) (a : Int) (H : ExprOk (SizeOf.sizeOf (N.mk 15 t x f l a))) (A B K : Option Addr) (c d e : Nat) (W : World) (b : Nat) (s : List UInt8) (i : Int) (hv : RdN (fun k => k < b) W (.agg #[.int .i64 15, .string ⟨t.toArray⟩, .int .i64 x.kind, .int .i64 x.num, .string ⟨x.str.toArray⟩, .slice A x.parts.length c, .slice B x.keys.length d, .bool f, .slice K l.length e, .int .i64 a]) (N.mk 15 t x f l a)) (hr : ∃ o, rightN o (N.mk 15 t x f l a) = true) (hB : BldSt b s W) (hP : PowAt b W) (hroom : s.length + (exprT (N.mk 15 t x f l a)).length ≤ 70368744177664) :
    Calls Tryd.prog 21 #[.agg #[.pointer (some ⟨b, 0, none⟩), .int .i64 i], .agg #[.int .i64 15, .string ⟨t.toArray⟩, .int .i64 x.kind, .int .i64 x.num, .string ⟨x.str.toArray⟩, .slice A x.parts.length c, .slice B x.keys.length d, .bool f, .slice K l.length e, .int .i64 a]] W fun e W' => e = .returned (.tuple #[]) ∧ BldTo b (s ++ exprT (N.mk 15 t x f l a)) W W' := by
  have hx : exprT (N.mk 15 t x f l a) = t ++ 40 :: (rowT 0 l ++ [41]) := by rw [exprT]; rfl
  obtain ⟨o, hr⟩ := hr
  obtain ⟨hsd, hsh⟩ := right_said hr
  have hkr := right_kids hr
  obtain ⟨A', c', B', d', K', e', hve, hn⟩ := hv.form
  have htl : t.length ≤ 16777216 := hn.text
  have hlen : l.length ≤ 16777216 := hn.len
  have hsz := fun (y : N) (hy : y ∈ l) => sz_mem (n := (N.mk 15 t x f l a)) hy
  clear hve hn
  simp only [N.kind, N.kids, N.text] at hsh hkr
  rw [hx] at hroom
  have HTx := Lib.hid hx
  have Hrm := Lib.hid hroom
  have HB := Lib.hid hB
  have HPw := Lib.hid hP
  have HV := Lib.hid hv
  have HT0 := Lib.hid (BldTo.of hB (two_al W (.cells #[.pointer (some ⟨b, 0, none⟩), .int .i64 i] 45) (.cells #[.int .i64 15, .string ⟨t.toArray⟩, .int .i64 x.kind, .int .i64 x.num, .string ⟨x.str.toArray⟩, .slice A x.parts.length c, .slice B x.keys.length d, .bool f, .slice K l.length e, .int .i64 a] 28)))
  have HW0 := Lib.hid (show HeldW W.heap.size b i ((W.alloc (.cells #[.pointer (some ⟨b, 0, none⟩), .int .i64 i] 45)).alloc (.cells #[.int .i64 15, .string ⟨t.toArray⟩, .int .i64 x.kind, .int .i64 x.num, .string ⟨x.str.toArray⟩, .slice A x.parts.length c, .slice B x.keys.length d, .bool f, .slice K l.length e, .int .i64 a] 28)) from Held.below (Held.at rfl) (one_al _ _))
  have HX0 := Lib.hid (show HeldN (W.heap.size + 1) _ _ _ _ _ _ _ _ _ _ ((W.alloc (.cells #[.pointer (some ⟨b, 0, none⟩), .int .i64 i] 45)).alloc (.cells #[.int .i64 15, .string ⟨t.toArray⟩, .int .i64 x.kind, .int .i64 x.num, .string ⟨x.str.toArray⟩, .slice A x.parts.length c, .slice B x.keys.length d, .bool f, .slice K l.length e, .int .i64 a] 28)) from Held.at (by simp))
  have Hbw := Lib.hid hB.lt
  have Hbn := Lib.hid (Nat.lt_succ_of_lt hB.lt)
  have hkids : RdNs (fun k => k < b) W (.slice K l.length e) 0 l := kids_of hv
  have HKd := Lib.hid hkids

  have HE := Lib.hid (fun (op en : List UInt8) (W1 : World) (s1 : List UInt8) (hb : Below b W W1) (hW1 : HeldW W.heap.size b i W1) (hX1 : HeldN (W.heap.size + 1) (.int .i64 15) (.string ⟨t.toArray⟩) (.int .i64 x.kind) (.int .i64 x.num) (.string ⟨x.str.toArray⟩) (.slice A x.parts.length c) (.slice B x.keys.length d) (.bool f) (.slice K l.length e) (.int .i64 a) W1) (hB1 : BldSt b s1 W1) (hr1 : s1.length + (op.length + (rowT 0 l).length + en.length) ≤ 70368744177664) =>
    w_exprs _ H l hsz hkr (all_kinds (by simpa [shapeK] using hsh)) K e W.heap.size (W.heap.size + 1) _ _ _ _ _ _ _ _ _ W1 b s1 i op en hW1 hX1 hB.lt (Nat.lt_succ_of_lt hB.lt) (hkids.lo hb) hlen hB1 (hP.lo hb) hr1)
  have hcat : ¬ 9223372036854775807 < t.length + 1 := by omega
  clear hv hB hP hr hx hroom hkids hsd hsh hkr hsz H
  go_enter Tryd.func21, Tryd.ntmps21
  obtain ⟨q0, q1⟩ := HeldW.facts HW0.out
  obtain ⟨x0, x1, x2, x3, x4, x5, x6, x7, x8, x9⟩ := HeldN.facts HX0.out
  go_wp2_with fail
  rw [show (⟨t.toArray⟩ ++ ⟨#[40]⟩ : ByteArray) = ⟨(t ++ [40]).toArray⟩ from ba_app t [40]]
  refine (HE.out (t ++ [40]) [41] _ s HT0.out.bel HW0.out HX0.out HT0.out.st (by have := Hrm.out; (try simp only [List.length_append, List.length_cons, List.length_nil] at this ⊢); omega)).mono ?_
  rintro e1 w1 ⟨rfl, hT⟩
  have HT1 := Lib.hid (HT0.out.trans hT)
  clear hT q0 q1 x0 x1 x2 x3 x4 x5 x6 x7 x8 x9
  go_wp2_with fail
  go_end0
  exact ⟨rfl, by rw [HTx.out]; have := HT1.out; simpa using this⟩
set_option maxRecDepth 20000 in
set_option maxHeartbeats 2000000 in
theorem w_expr_16 (t : List UInt8) (x : V) (f : Bool) (l : List N) (a : Int) (H : ExprOk (SizeOf.sizeOf (N.mk 16 t x f l a))) (A B K : Option Addr) (c d e : Nat) (W : World) (b : Nat) (s : List UInt8) (i : Int) (hv : RdN (fun k => k < b) W (.agg #[.int .i64 16, .string ⟨t.toArray⟩, .int .i64 x.kind, .int .i64 x.num, .string ⟨x.str.toArray⟩, .slice A x.parts.length c, .slice B x.keys.length d, .bool f, .slice K l.length e, .int .i64 a]) (N.mk 16 t x f l a)) (hr : ∃ o, rightN o (N.mk 16 t x f l a) = true) (hB : BldSt b s W) (hP : PowAt b W) (hroom : s.length + (exprT (N.mk 16 t x f l a)).length ≤ 70368744177664) :
    Calls Tryd.prog 21 #[.agg #[.pointer (some ⟨b, 0, none⟩), .int .i64 i], .agg #[.int .i64 16, .string ⟨t.toArray⟩, .int .i64 x.kind, .int .i64 x.num, .string ⟨x.str.toArray⟩, .slice A x.parts.length c, .slice B x.keys.length d, .bool f, .slice K l.length e, .int .i64 a]] W fun e W' => e = .returned (.tuple #[]) ∧ BldTo b (s ++ exprT (N.mk 16 t x f l a)) W W' := by
  have hx : exprT (N.mk 16 t x f l a) = t ++ partT 16 t 0 0 l := by rw [exprT]; rfl
  obtain ⟨o, hr⟩ := hr
  obtain ⟨hsd, hsh⟩ := right_said hr
  have hkr := right_kids hr
  obtain ⟨A', c', B', d', K', e', hve, hn⟩ := hv.form
  have htl : t.length ≤ 16777216 := hn.text
  have hlen : l.length ≤ 16777216 := hn.len
  have hsz := fun (y : N) (hy : y ∈ l) => sz_mem (n := (N.mk 16 t x f l a)) hy
  clear hve hn
  simp only [N.kind, N.kids, N.text] at hsh hkr
  rw [hx] at hroom
  have HTx := Lib.hid hx
  have Hrm := Lib.hid hroom
  have HB := Lib.hid hB
  have HPw := Lib.hid hP
  have HV := Lib.hid hv
  have HT0 := Lib.hid (BldTo.of hB (two_al W (.cells #[.pointer (some ⟨b, 0, none⟩), .int .i64 i] 45) (.cells #[.int .i64 16, .string ⟨t.toArray⟩, .int .i64 x.kind, .int .i64 x.num, .string ⟨x.str.toArray⟩, .slice A x.parts.length c, .slice B x.keys.length d, .bool f, .slice K l.length e, .int .i64 a] 28)))
  have HW0 := Lib.hid (show HeldW W.heap.size b i ((W.alloc (.cells #[.pointer (some ⟨b, 0, none⟩), .int .i64 i] 45)).alloc (.cells #[.int .i64 16, .string ⟨t.toArray⟩, .int .i64 x.kind, .int .i64 x.num, .string ⟨x.str.toArray⟩, .slice A x.parts.length c, .slice B x.keys.length d, .bool f, .slice K l.length e, .int .i64 a] 28)) from Held.below (Held.at rfl) (one_al _ _))
  have HX0 := Lib.hid (show HeldN (W.heap.size + 1) _ _ _ _ _ _ _ _ _ _ ((W.alloc (.cells #[.pointer (some ⟨b, 0, none⟩), .int .i64 i] 45)).alloc (.cells #[.int .i64 16, .string ⟨t.toArray⟩, .int .i64 x.kind, .int .i64 x.num, .string ⟨x.str.toArray⟩, .slice A x.parts.length c, .slice B x.keys.length d, .bool f, .slice K l.length e, .int .i64 a] 28)) from Held.at (by simp))
  have Hbw := Lib.hid hB.lt
  have Hbn := Lib.hid (Nat.lt_succ_of_lt hB.lt)
  have hkids : RdNs (fun k => k < b) W (.slice K l.length e) 0 l := kids_of hv
  have HKd := Lib.hid hkids

  have hll : l.length = 1 := by simp only [shapeK] at hsh; simp at hsh; exact hsh.1
  have hkk := all_kinds (l := l) (by simp only [shapeK] at hsh; simp at hsh; simpa using hsh.2)
  have HP0 := Lib.hid (fun (W1 : World) (s1 : List UInt8) (hb : Below b W W1) (hB1 : BldSt b s1 W1) (hr1 : s1.length + (partT 16 t 0 0 l).length ≤ 70368744177664) => w_partT _ H (N.mk 16 t x f l a) 0 (by show 0 < l.length; omega) (hsz _ (List.getElem_mem _)) (hkr _ (List.getElem_mem _)) (hkk _ (List.getElem_mem _)) _ W1 b s1 i (hv.lo hb) hB1 (hP.lo hb) hr1)
  simp only [N.kind, N.text, N.kids] at HP0
  clear hv hB hP hr hx hroom hkids hsd hsh hkr hsz H hkk hll
  go_enter Tryd.func21, Tryd.ntmps21
  obtain ⟨q0, q1⟩ := HeldW.facts HW0.out
  obtain ⟨x0, x1, x2, x3, x4, x5, x6, x7, x8, x9⟩ := HeldN.facts HX0.out
  go_wp2_with fail
  refine (bld_String b s t _ HT0.out.st (by have := Hrm.out; (try simp only [List.length_append, List.length_cons, List.length_nil] at this ⊢); omega)).mono ?_
  rintro e1 w1 ⟨rfl, hT⟩
  have HT1 := Lib.hid (HT0.out.trans hT)
  have HW1 := Lib.hid (HeldW.to HW0.out Hbw.out hT)
  have HX1 := Lib.hid (HeldN.to HX0.out Hbn.out hT)
  clear hT q0 q1 x0 x1 x2 x3 x4 x5 x6 x7 x8 x9
  obtain ⟨q0, q1⟩ := HeldW.facts HW1.out
  obtain ⟨x0, x1, x2, x3, x4, x5, x6, x7, x8, x9⟩ := HeldN.facts HX1.out
  go_wp2_with fail
  refine (HP0.out _ (s ++ t) HT1.out.bel HT1.out.st (by have := Hrm.out; (try simp only [List.length_append, List.length_cons, List.length_nil] at this ⊢); omega)).mono ?_
  rintro e2 w2 ⟨rfl, hT⟩
  have HT2 := Lib.hid (HT1.out.trans hT)
  have HW2 := Lib.hid (HeldW.to HW1.out Hbw.out hT)
  have HX2 := Lib.hid (HeldN.to HX1.out Hbn.out hT)
  clear hT q0 q1 x0 x1 x2 x3 x4 x5 x6 x7 x8 x9
  obtain ⟨q0, q1⟩ := HeldW.facts HW2.out
  obtain ⟨x0, x1, x2, x3, x4, x5, x6, x7, x8, x9⟩ := HeldN.facts HX2.out
  go_wp2_with fail
  go_end0
  exact ⟨rfl, by rw [HTx.out]; have := HT2.out; simpa using this⟩
set_option maxRecDepth 20000 in
set_option maxHeartbeats 2000000 in
theorem w_expr_17 (t : List UInt8) (x : V) (f : Bool) (l : List N) (a : Int) (H : ExprOk (SizeOf.sizeOf (N.mk 17 t x f l a))) (A B K : Option Addr) (c d e : Nat) (W : World) (b : Nat) (s : List UInt8) (i : Int) (hv : RdN (fun k => k < b) W (.agg #[.int .i64 17, .string ⟨t.toArray⟩, .int .i64 x.kind, .int .i64 x.num, .string ⟨x.str.toArray⟩, .slice A x.parts.length c, .slice B x.keys.length d, .bool f, .slice K l.length e, .int .i64 a]) (N.mk 17 t x f l a)) (hr : ∃ o, rightN o (N.mk 17 t x f l a) = true) (hB : BldSt b s W) (hP : PowAt b W) (hroom : s.length + (exprT (N.mk 17 t x f l a)).length ≤ 70368744177664) :
    Calls Tryd.prog 21 #[.agg #[.pointer (some ⟨b, 0, none⟩), .int .i64 i], .agg #[.int .i64 17, .string ⟨t.toArray⟩, .int .i64 x.kind, .int .i64 x.num, .string ⟨x.str.toArray⟩, .slice A x.parts.length c, .slice B x.keys.length d, .bool f, .slice K l.length e, .int .i64 a]] W fun e W' => e = .returned (.tuple #[]) ∧ BldTo b (s ++ exprT (N.mk 17 t x f l a)) W W' := by
  have hx : exprT (N.mk 17 t x f l a) = partT 17 t 0 0 l ++ 32 :: (t ++ 32 :: partT 17 t 1 1 l) := by rw [exprT]; rfl
  obtain ⟨o, hr⟩ := hr
  obtain ⟨hsd, hsh⟩ := right_said hr
  have hkr := right_kids hr
  obtain ⟨A', c', B', d', K', e', hve, hn⟩ := hv.form
  have htl : t.length ≤ 16777216 := hn.text
  have hlen : l.length ≤ 16777216 := hn.len
  have hsz := fun (y : N) (hy : y ∈ l) => sz_mem (n := (N.mk 17 t x f l a)) hy
  clear hve hn
  simp only [N.kind, N.kids, N.text] at hsh hkr
  rw [hx] at hroom
  have HTx := Lib.hid hx
  have Hrm := Lib.hid hroom
  have HB := Lib.hid hB
  have HPw := Lib.hid hP
  have HV := Lib.hid hv
  have HT0 := Lib.hid (BldTo.of hB (two_al W (.cells #[.pointer (some ⟨b, 0, none⟩), .int .i64 i] 45) (.cells #[.int .i64 17, .string ⟨t.toArray⟩, .int .i64 x.kind, .int .i64 x.num, .string ⟨x.str.toArray⟩, .slice A x.parts.length c, .slice B x.keys.length d, .bool f, .slice K l.length e, .int .i64 a] 28)))
  have HW0 := Lib.hid (show HeldW W.heap.size b i ((W.alloc (.cells #[.pointer (some ⟨b, 0, none⟩), .int .i64 i] 45)).alloc (.cells #[.int .i64 17, .string ⟨t.toArray⟩, .int .i64 x.kind, .int .i64 x.num, .string ⟨x.str.toArray⟩, .slice A x.parts.length c, .slice B x.keys.length d, .bool f, .slice K l.length e, .int .i64 a] 28)) from Held.below (Held.at rfl) (one_al _ _))
  have HX0 := Lib.hid (show HeldN (W.heap.size + 1) _ _ _ _ _ _ _ _ _ _ ((W.alloc (.cells #[.pointer (some ⟨b, 0, none⟩), .int .i64 i] 45)).alloc (.cells #[.int .i64 17, .string ⟨t.toArray⟩, .int .i64 x.kind, .int .i64 x.num, .string ⟨x.str.toArray⟩, .slice A x.parts.length c, .slice B x.keys.length d, .bool f, .slice K l.length e, .int .i64 a] 28)) from Held.at (by simp))
  have Hbw := Lib.hid hB.lt
  have Hbn := Lib.hid (Nat.lt_succ_of_lt hB.lt)
  have hkids : RdNs (fun k => k < b) W (.slice K l.length e) 0 l := kids_of hv
  have HKd := Lib.hid hkids

  have hll : l.length = 2 := by simp only [shapeK] at hsh; simp at hsh; exact hsh.1
  have hkk := all_kinds (l := l) (by simp only [shapeK] at hsh; simp at hsh; simpa using hsh.2)
  have HP0 := Lib.hid (fun (W1 : World) (s1 : List UInt8) (hb : Below b W W1) (hB1 : BldSt b s1 W1) (hr1 : s1.length + (partT 17 t 0 0 l).length ≤ 70368744177664) => w_partT _ H (N.mk 17 t x f l a) 0 (by show 0 < l.length; omega) (hsz _ (List.getElem_mem _)) (hkr _ (List.getElem_mem _)) (hkk _ (List.getElem_mem _)) _ W1 b s1 i (hv.lo hb) hB1 (hP.lo hb) hr1)
  simp only [N.kind, N.text, N.kids] at HP0
  have HP1 := Lib.hid (fun (W1 : World) (s1 : List UInt8) (hb : Below b W W1) (hB1 : BldSt b s1 W1) (hr1 : s1.length + (partT 17 t 1 1 l).length ≤ 70368744177664) => w_partT _ H (N.mk 17 t x f l a) 1 (by show 1 < l.length; omega) (hsz _ (List.getElem_mem _)) (hkr _ (List.getElem_mem _)) (hkk _ (List.getElem_mem _)) _ W1 b s1 i (hv.lo hb) hB1 (hP.lo hb) hr1)
  simp only [N.kind, N.text, N.kids] at HP1
  have hcat : ¬ 9223372036854775807 < 1 + t.length := by omega
  have hcat2 : ¬ 9223372036854775807 < 1 + t.length + 1 := by omega
  clear hv hB hP hr hx hroom hkids hsd hsh hkr hsz H hkk hll
  go_enter Tryd.func21, Tryd.ntmps21
  obtain ⟨q0, q1⟩ := HeldW.facts HW0.out
  obtain ⟨x0, x1, x2, x3, x4, x5, x6, x7, x8, x9⟩ := HeldN.facts HX0.out
  go_wp2_with fail
  refine (HP0.out _ s HT0.out.bel HT0.out.st (by have := Hrm.out; (try simp only [List.length_append, List.length_cons, List.length_nil] at this ⊢); omega)).mono ?_
  rintro e1 w1 ⟨rfl, hT⟩
  have HT1 := Lib.hid (HT0.out.trans hT)
  have HW1 := Lib.hid (HeldW.to HW0.out Hbw.out hT)
  have HX1 := Lib.hid (HeldN.to HX0.out Hbn.out hT)
  clear hT q0 q1 x0 x1 x2 x3 x4 x5 x6 x7 x8 x9
  obtain ⟨q0, q1⟩ := HeldW.facts HW1.out
  obtain ⟨x0, x1, x2, x3, x4, x5, x6, x7, x8, x9⟩ := HeldN.facts HX1.out
  go_wp2_with fail
  rw [show (⟨#[32]⟩ ++ ⟨t.toArray⟩ ++ ⟨#[32]⟩ : ByteArray) = ⟨([32] ++ t ++ [32]).toArray⟩ from ba_app3 [32] t [32]]
  refine (bld_String b (s ++ partT 17 t 0 0 l) ([32] ++ t ++ [32]) _ HT1.out.st (by have := Hrm.out; (try simp only [List.length_append, List.length_cons, List.length_nil] at this ⊢); omega)).mono ?_
  rintro e2 w2 ⟨rfl, hT⟩
  have HT2 := Lib.hid (HT1.out.trans hT)
  have HW2 := Lib.hid (HeldW.to HW1.out Hbw.out hT)
  have HX2 := Lib.hid (HeldN.to HX1.out Hbn.out hT)
  clear hT q0 q1 x0 x1 x2 x3 x4 x5 x6 x7 x8 x9
  obtain ⟨q0, q1⟩ := HeldW.facts HW2.out
  obtain ⟨x0, x1, x2, x3, x4, x5, x6, x7, x8, x9⟩ := HeldN.facts HX2.out
  go_wp2_with fail
  refine (HP1.out _ (s ++ partT 17 t 0 0 l ++ ([32] ++ t ++ [32])) HT2.out.bel HT2.out.st (by have := Hrm.out; (try simp only [List.length_append, List.length_cons, List.length_nil] at this ⊢); omega)).mono ?_
  rintro e3 w3 ⟨rfl, hT⟩
  have HT3 := Lib.hid (HT2.out.trans hT)
  have HW3 := Lib.hid (HeldW.to HW2.out Hbw.out hT)
  have HX3 := Lib.hid (HeldN.to HX2.out Hbn.out hT)
  clear hT q0 q1 x0 x1 x2 x3 x4 x5 x6 x7 x8 x9
  obtain ⟨q0, q1⟩ := HeldW.facts HW3.out
  obtain ⟨x0, x1, x2, x3, x4, x5, x6, x7, x8, x9⟩ := HeldN.facts HX3.out
  go_wp2_with fail
  go_end0
  exact ⟨rfl, by rw [HTx.out]; have := HT3.out; simpa using this⟩
set_option maxRecDepth 20000 in
set_option maxHeartbeats 2000000 in
theorem w_expr_18 (t : List UInt8) (x : V) (f : Bool) (l : List N) (a : Int) (H : ExprOk (SizeOf.sizeOf (N.mk 18 t x f l a))) (A B K : Option Addr) (c d e : Nat) (W : World) (b : Nat) (s : List UInt8) (i : Int) (hv : RdN (fun k => k < b) W (.agg #[.int .i64 18, .string ⟨t.toArray⟩, .int .i64 x.kind, .int .i64 x.num, .string ⟨x.str.toArray⟩, .slice A x.parts.length c, .slice B x.keys.length d, .bool f, .slice K l.length e, .int .i64 a]) (N.mk 18 t x f l a)) (hr : ∃ o, rightN o (N.mk 18 t x f l a) = true) (hB : BldSt b s W) (hP : PowAt b W) (hroom : s.length + (exprT (N.mk 18 t x f l a)).length ≤ 70368744177664) :
    Calls Tryd.prog 21 #[.agg #[.pointer (some ⟨b, 0, none⟩), .int .i64 i], .agg #[.int .i64 18, .string ⟨t.toArray⟩, .int .i64 x.kind, .int .i64 x.num, .string ⟨x.str.toArray⟩, .slice A x.parts.length c, .slice B x.keys.length d, .bool f, .slice K l.length e, .int .i64 a]] W fun e W' => e = .returned (.tuple #[]) ∧ BldTo b (s ++ exprT (N.mk 18 t x f l a)) W W' := by
  have hx : exprT (N.mk 18 t x f l a) = 91 :: (rowT 0 l ++ [93]) := by rw [exprT]; rfl
  obtain ⟨o, hr⟩ := hr
  obtain ⟨hsd, hsh⟩ := right_said hr
  have hkr := right_kids hr
  obtain ⟨A', c', B', d', K', e', hve, hn⟩ := hv.form
  have htl : t.length ≤ 16777216 := hn.text
  have hlen : l.length ≤ 16777216 := hn.len
  have hsz := fun (y : N) (hy : y ∈ l) => sz_mem (n := (N.mk 18 t x f l a)) hy
  clear hve hn
  simp only [N.kind, N.kids, N.text] at hsh hkr
  rw [hx] at hroom
  have HTx := Lib.hid hx
  have Hrm := Lib.hid hroom
  have HB := Lib.hid hB
  have HPw := Lib.hid hP
  have HV := Lib.hid hv
  have HT0 := Lib.hid (BldTo.of hB (two_al W (.cells #[.pointer (some ⟨b, 0, none⟩), .int .i64 i] 45) (.cells #[.int .i64 18, .string ⟨t.toArray⟩, .int .i64 x.kind, .int .i64 x.num, .string ⟨x.str.toArray⟩, .slice A x.parts.length c, .slice B x.keys.length d, .bool f, .slice K l.length e, .int .i64 a] 28)))
  have HW0 := Lib.hid (show HeldW W.heap.size b i ((W.alloc (.cells #[.pointer (some ⟨b, 0, none⟩), .int .i64 i] 45)).alloc (.cells #[.int .i64 18, .string ⟨t.toArray⟩, .int .i64 x.kind, .int .i64 x.num, .string ⟨x.str.toArray⟩, .slice A x.parts.length c, .slice B x.keys.length d, .bool f, .slice K l.length e, .int .i64 a] 28)) from Held.below (Held.at rfl) (one_al _ _))
  have HX0 := Lib.hid (show HeldN (W.heap.size + 1) _ _ _ _ _ _ _ _ _ _ ((W.alloc (.cells #[.pointer (some ⟨b, 0, none⟩), .int .i64 i] 45)).alloc (.cells #[.int .i64 18, .string ⟨t.toArray⟩, .int .i64 x.kind, .int .i64 x.num, .string ⟨x.str.toArray⟩, .slice A x.parts.length c, .slice B x.keys.length d, .bool f, .slice K l.length e, .int .i64 a] 28)) from Held.at (by simp))
  have Hbw := Lib.hid hB.lt
  have Hbn := Lib.hid (Nat.lt_succ_of_lt hB.lt)
  have hkids : RdNs (fun k => k < b) W (.slice K l.length e) 0 l := kids_of hv
  have HKd := Lib.hid hkids

  have HE := Lib.hid (fun (op en : List UInt8) (W1 : World) (s1 : List UInt8) (hb : Below b W W1) (hW1 : HeldW W.heap.size b i W1) (hX1 : HeldN (W.heap.size + 1) (.int .i64 18) (.string ⟨t.toArray⟩) (.int .i64 x.kind) (.int .i64 x.num) (.string ⟨x.str.toArray⟩) (.slice A x.parts.length c) (.slice B x.keys.length d) (.bool f) (.slice K l.length e) (.int .i64 a) W1) (hB1 : BldSt b s1 W1) (hr1 : s1.length + (op.length + (rowT 0 l).length + en.length) ≤ 70368744177664) =>
    w_exprs _ H l hsz hkr (all_kinds (by simpa [shapeK] using hsh)) K e W.heap.size (W.heap.size + 1) _ _ _ _ _ _ _ _ _ W1 b s1 i op en hW1 hX1 hB.lt (Nat.lt_succ_of_lt hB.lt) (hkids.lo hb) hlen hB1 (hP.lo hb) hr1)
  clear hv hB hP hr hx hroom hkids hsd hsh hkr hsz H
  go_enter Tryd.func21, Tryd.ntmps21
  obtain ⟨q0, q1⟩ := HeldW.facts HW0.out
  obtain ⟨x0, x1, x2, x3, x4, x5, x6, x7, x8, x9⟩ := HeldN.facts HX0.out
  go_wp2_with fail
  refine (HE.out [91] [93] _ s HT0.out.bel HW0.out HX0.out HT0.out.st (by have := Hrm.out; (try simp only [List.length_append, List.length_cons, List.length_nil] at this ⊢); omega)).mono ?_
  rintro e1 w1 ⟨rfl, hT⟩
  have HT1 := Lib.hid (HT0.out.trans hT)
  clear hT q0 q1 x0 x1 x2 x3 x4 x5 x6 x7 x8 x9
  go_wp2_with fail
  go_end0
  exact ⟨rfl, by rw [HTx.out]; have := HT1.out; simpa using this⟩
set_option maxRecDepth 20000 in
set_option maxHeartbeats 2000000 in
theorem w_expr_19 (t : List UInt8) (x : V) (f : Bool) (l : List N) (a : Int) (H : ExprOk (SizeOf.sizeOf (N.mk 19 t x f l a))) (A B K : Option Addr) (c d e : Nat) (W : World) (b : Nat) (s : List UInt8) (i : Int) (hv : RdN (fun k => k < b) W (.agg #[.int .i64 19, .string ⟨t.toArray⟩, .int .i64 x.kind, .int .i64 x.num, .string ⟨x.str.toArray⟩, .slice A x.parts.length c, .slice B x.keys.length d, .bool f, .slice K l.length e, .int .i64 a]) (N.mk 19 t x f l a)) (hr : ∃ o, rightN o (N.mk 19 t x f l a) = true) (hB : BldSt b s W) (hP : PowAt b W) (hroom : s.length + (exprT (N.mk 19 t x f l a)).length ≤ 70368744177664) :
    Calls Tryd.prog 21 #[.agg #[.pointer (some ⟨b, 0, none⟩), .int .i64 i], .agg #[.int .i64 19, .string ⟨t.toArray⟩, .int .i64 x.kind, .int .i64 x.num, .string ⟨x.str.toArray⟩, .slice A x.parts.length c, .slice B x.keys.length d, .bool f, .slice K l.length e, .int .i64 a]] W fun e W' => e = .returned (.tuple #[]) ∧ BldTo b (s ++ exprT (N.mk 19 t x f l a)) W W' := by
  have hx : exprT (N.mk 19 t x f l a) = 123 :: (rowT 0 l ++ [125]) := by rw [exprT]; rfl
  obtain ⟨o, hr⟩ := hr
  obtain ⟨hsd, hsh⟩ := right_said hr
  have hkr := right_kids hr
  obtain ⟨A', c', B', d', K', e', hve, hn⟩ := hv.form
  have htl : t.length ≤ 16777216 := hn.text
  have hlen : l.length ≤ 16777216 := hn.len
  have hsz := fun (y : N) (hy : y ∈ l) => sz_mem (n := (N.mk 19 t x f l a)) hy
  clear hve hn
  simp only [N.kind, N.kids, N.text] at hsh hkr
  rw [hx] at hroom
  have HTx := Lib.hid hx
  have Hrm := Lib.hid hroom
  have HB := Lib.hid hB
  have HPw := Lib.hid hP
  have HV := Lib.hid hv
  have HT0 := Lib.hid (BldTo.of hB (two_al W (.cells #[.pointer (some ⟨b, 0, none⟩), .int .i64 i] 45) (.cells #[.int .i64 19, .string ⟨t.toArray⟩, .int .i64 x.kind, .int .i64 x.num, .string ⟨x.str.toArray⟩, .slice A x.parts.length c, .slice B x.keys.length d, .bool f, .slice K l.length e, .int .i64 a] 28)))
  have HW0 := Lib.hid (show HeldW W.heap.size b i ((W.alloc (.cells #[.pointer (some ⟨b, 0, none⟩), .int .i64 i] 45)).alloc (.cells #[.int .i64 19, .string ⟨t.toArray⟩, .int .i64 x.kind, .int .i64 x.num, .string ⟨x.str.toArray⟩, .slice A x.parts.length c, .slice B x.keys.length d, .bool f, .slice K l.length e, .int .i64 a] 28)) from Held.below (Held.at rfl) (one_al _ _))
  have HX0 := Lib.hid (show HeldN (W.heap.size + 1) _ _ _ _ _ _ _ _ _ _ ((W.alloc (.cells #[.pointer (some ⟨b, 0, none⟩), .int .i64 i] 45)).alloc (.cells #[.int .i64 19, .string ⟨t.toArray⟩, .int .i64 x.kind, .int .i64 x.num, .string ⟨x.str.toArray⟩, .slice A x.parts.length c, .slice B x.keys.length d, .bool f, .slice K l.length e, .int .i64 a] 28)) from Held.at (by simp))
  have Hbw := Lib.hid hB.lt
  have Hbn := Lib.hid (Nat.lt_succ_of_lt hB.lt)
  have hkids : RdNs (fun k => k < b) W (.slice K l.length e) 0 l := kids_of hv
  have HKd := Lib.hid hkids

  have HE := Lib.hid (fun (op en : List UInt8) (W1 : World) (s1 : List UInt8) (hb : Below b W W1) (hW1 : HeldW W.heap.size b i W1) (hX1 : HeldN (W.heap.size + 1) (.int .i64 19) (.string ⟨t.toArray⟩) (.int .i64 x.kind) (.int .i64 x.num) (.string ⟨x.str.toArray⟩) (.slice A x.parts.length c) (.slice B x.keys.length d) (.bool f) (.slice K l.length e) (.int .i64 a) W1) (hB1 : BldSt b s1 W1) (hr1 : s1.length + (op.length + (rowT 0 l).length + en.length) ≤ 70368744177664) =>
    w_exprs _ H l hsz hkr (all_pairs (by simpa [shapeK] using hsh)) K e W.heap.size (W.heap.size + 1) _ _ _ _ _ _ _ _ _ W1 b s1 i op en hW1 hX1 hB.lt (Nat.lt_succ_of_lt hB.lt) (hkids.lo hb) hlen hB1 (hP.lo hb) hr1)
  clear hv hB hP hr hx hroom hkids hsd hsh hkr hsz H
  go_enter Tryd.func21, Tryd.ntmps21
  obtain ⟨q0, q1⟩ := HeldW.facts HW0.out
  obtain ⟨x0, x1, x2, x3, x4, x5, x6, x7, x8, x9⟩ := HeldN.facts HX0.out
  go_wp2_with fail
  refine (HE.out [123] [125] _ s HT0.out.bel HW0.out HX0.out HT0.out.st (by have := Hrm.out; (try simp only [List.length_append, List.length_cons, List.length_nil] at this ⊢); omega)).mono ?_
  rintro e1 w1 ⟨rfl, hT⟩
  have HT1 := Lib.hid (HT0.out.trans hT)
  clear hT q0 q1 x0 x1 x2 x3 x4 x5 x6 x7 x8 x9
  go_wp2_with fail
  go_end0
  exact ⟨rfl, by rw [HTx.out]; have := HT1.out; simpa using this⟩
set_option maxRecDepth 20000 in
set_option maxHeartbeats 2000000 in
theorem w_expr_20 (t : List UInt8) (x : V) (f : Bool) (l : List N) (a : Int) (H : ExprOk (SizeOf.sizeOf (N.mk 20 t x f l a))) (A B K : Option Addr) (c d e : Nat) (W : World) (b : Nat) (s : List UInt8) (i : Int) (hv : RdN (fun k => k < b) W (.agg #[.int .i64 20, .string ⟨t.toArray⟩, .int .i64 x.kind, .int .i64 x.num, .string ⟨x.str.toArray⟩, .slice A x.parts.length c, .slice B x.keys.length d, .bool f, .slice K l.length e, .int .i64 a]) (N.mk 20 t x f l a)) (hr : ∃ o, rightN o (N.mk 20 t x f l a) = true) (hB : BldSt b s W) (hP : PowAt b W) (hroom : s.length + (exprT (N.mk 20 t x f l a)).length ≤ 70368744177664) :
    Calls Tryd.prog 21 #[.agg #[.pointer (some ⟨b, 0, none⟩), .int .i64 i], .agg #[.int .i64 20, .string ⟨t.toArray⟩, .int .i64 x.kind, .int .i64 x.num, .string ⟨x.str.toArray⟩, .slice A x.parts.length c, .slice B x.keys.length d, .bool f, .slice K l.length e, .int .i64 a]] W fun e W' => e = .returned (.tuple #[]) ∧ BldTo b (s ++ exprT (N.mk 20 t x f l a)) W W' := by
  have hx : exprT (N.mk 20 t x f l a) = keyT t ++ [58, 32] ++ rowT 0 l := by rw [exprT]; rfl
  obtain ⟨o, hr⟩ := hr
  obtain ⟨hsd, hsh⟩ := right_said hr
  have hkr := right_kids hr
  obtain ⟨A', c', B', d', K', e', hve, hn⟩ := hv.form
  have htl : t.length ≤ 16777216 := hn.text
  have hlen : l.length ≤ 16777216 := hn.len
  have hsz := fun (y : N) (hy : y ∈ l) => sz_mem (n := (N.mk 20 t x f l a)) hy
  clear hve hn
  simp only [N.kind, N.kids, N.text] at hsh hkr
  rw [hx] at hroom
  have HTx := Lib.hid hx
  have Hrm := Lib.hid hroom
  have HB := Lib.hid hB
  have HPw := Lib.hid hP
  have HV := Lib.hid hv
  have HT0 := Lib.hid (BldTo.of hB (two_al W (.cells #[.pointer (some ⟨b, 0, none⟩), .int .i64 i] 45) (.cells #[.int .i64 20, .string ⟨t.toArray⟩, .int .i64 x.kind, .int .i64 x.num, .string ⟨x.str.toArray⟩, .slice A x.parts.length c, .slice B x.keys.length d, .bool f, .slice K l.length e, .int .i64 a] 28)))
  have HW0 := Lib.hid (show HeldW W.heap.size b i ((W.alloc (.cells #[.pointer (some ⟨b, 0, none⟩), .int .i64 i] 45)).alloc (.cells #[.int .i64 20, .string ⟨t.toArray⟩, .int .i64 x.kind, .int .i64 x.num, .string ⟨x.str.toArray⟩, .slice A x.parts.length c, .slice B x.keys.length d, .bool f, .slice K l.length e, .int .i64 a] 28)) from Held.below (Held.at rfl) (one_al _ _))
  have HX0 := Lib.hid (show HeldN (W.heap.size + 1) _ _ _ _ _ _ _ _ _ _ ((W.alloc (.cells #[.pointer (some ⟨b, 0, none⟩), .int .i64 i] 45)).alloc (.cells #[.int .i64 20, .string ⟨t.toArray⟩, .int .i64 x.kind, .int .i64 x.num, .string ⟨x.str.toArray⟩, .slice A x.parts.length c, .slice B x.keys.length d, .bool f, .slice K l.length e, .int .i64 a] 28)) from Held.at (by simp))
  have Hbw := Lib.hid hB.lt
  have Hbn := Lib.hid (Nat.lt_succ_of_lt hB.lt)
  have hkids : RdNs (fun k => k < b) W (.slice K l.length e) 0 l := kids_of hv
  have HKd := Lib.hid hkids

  have HE := Lib.hid (fun (op en : List UInt8) (W1 : World) (s1 : List UInt8) (hb : Below b W W1) (hW1 : HeldW W.heap.size b i W1) (hX1 : HeldN (W.heap.size + 1) (.int .i64 20) (.string ⟨t.toArray⟩) (.int .i64 x.kind) (.int .i64 x.num) (.string ⟨x.str.toArray⟩) (.slice A x.parts.length c) (.slice B x.keys.length d) (.bool f) (.slice K l.length e) (.int .i64 a) W1) (hB1 : BldSt b s1 W1) (hr1 : s1.length + (op.length + (rowT 0 l).length + en.length) ≤ 70368744177664) =>
    w_exprs _ H l hsz hkr (all_kinds (by simp only [shapeK] at hsh; simp at hsh; simpa using hsh.2)) K e W.heap.size (W.heap.size + 1) _ _ _ _ _ _ _ _ _ W1 b s1 i op en hW1 hX1 hB.lt (Nat.lt_succ_of_lt hB.lt) (hkids.lo hb) hlen hB1 (hP.lo hb) hr1)
  have ht32 : t.length ≤ 32 := by
    unfold saidS at hsd
    simp only [Bool.and_eq_true, N.kind, N.text] at hsd
    have := hsd.1
    simp [saidText] at this
    exact this
  have HQ := Lib.hid (fun W1 => lex_Quote ⟨t.toArray⟩ W1 (by show t.length ≤ 1048576; omega))
  have hql := quoteS_len t
  have hcat : ¬ 9223372036854775807 < t.length + 2 := by omega
  have hcat2 : ¬ 9223372036854775807 < (quoteS t).length + 2 := by omega
  have Hkey := Lib.hid (show keyT t = if isNameB t = true then t else quoteS t from rfl)
  clear hv hB hP hr hx hroom hkids hsd hsh hkr hsz H
  go_enter Tryd.func21, Tryd.ntmps21
  obtain ⟨q0, q1⟩ := HeldW.facts HW0.out
  obtain ⟨x0, x1, x2, x3, x4, x5, x6, x7, x8, x9⟩ := HeldN.facts HX0.out
  go_wp2_with fail
  refine (lex_IsName ⟨t.toArray⟩ _ (by show t.length ≤ 9223372036854775807; omega)).mono ?_
  rintro e1 w1 ⟨rfl, hb⟩
  have HT1 := Lib.hid (HT0.out.more hb)
  have HW1 := Lib.hid (Held.below HW0.out hb)
  have HX1 := Lib.hid (Held.below HX0.out hb)
  clear hb q0 q1 x0 x1 x2 x3 x4 x5 x6 x7 x8 x9
  obtain ⟨q0, q1⟩ := HeldW.facts HW1.out
  obtain ⟨x0, x1, x2, x3, x4, x5, x6, x7, x8, x9⟩ := HeldN.facts HX1.out
  cases hnm : isNameB t with
  | true =>
    have Hk := Lib.hid (show keyT t = t by rw [Hkey.out, hnm]; rfl)
    clear hnm
    go_wp2_with fail
    rw [show (⟨t.toArray⟩ ++ ⟨#[58, 32]⟩ : ByteArray) = ⟨(t ++ [58, 32]).toArray⟩ from ba_app t [58, 32]]
    refine (HE.out (t ++ [58, 32]) [] _ s HT1.out.bel HW1.out HX1.out HT1.out.st (by have := Hrm.out; rw [Hk.out] at this; simp only [List.length_append, List.length_cons, List.length_nil] at this ⊢; omega)).mono ?_
    rintro e1 w2 ⟨rfl, hT⟩
    have HT2 := Lib.hid (HT1.out.trans hT)
    clear hT q0 q1 x0 x1 x2 x3 x4 x5 x6 x7 x8 x9
    go_wp2_with fail
    go_end0
    exact ⟨rfl, by rw [HTx.out, Hk.out]; have := HT2.out; simpa using this⟩
  | false =>
    have Hk := Lib.hid (show keyT t = quoteS t by rw [Hkey.out, hnm]; rfl)
    clear hnm
    go_wp2_with fail
    refine (HQ.out _).mono ?_
    rintro e1 w2 ⟨rfl, hb⟩
    have HT2 := Lib.hid (HT1.out.more hb)
    have HW2 := Lib.hid (Held.below HW1.out hb)
    have HX2 := Lib.hid (Held.below HX1.out hb)
    clear hb q0 q1 x0 x1 x2 x3 x4 x5 x6 x7 x8 x9
    go_wp2_with fail
    rw [show (⟨(quoteS t).toArray⟩ ++ ⟨#[58, 32]⟩ : ByteArray) = ⟨(quoteS t ++ [58, 32]).toArray⟩ from ba_app (quoteS t) [58, 32]]
    refine (HE.out (quoteS t ++ [58, 32]) [] _ s HT2.out.bel HW2.out HX2.out HT2.out.st (by have := Hrm.out; rw [Hk.out] at this; simp only [List.length_append, List.length_cons, List.length_nil] at this ⊢; omega)).mono ?_
    rintro e1 w3 ⟨rfl, hT⟩
    have HT3 := Lib.hid (HT2.out.trans hT)
    clear hT
    go_wp2_with fail
    go_end0
    exact ⟨rfl, by rw [HTx.out, Hk.out]; have := HT3.out; simpa using this⟩
set_option maxRecDepth 20000 in
set_option maxHeartbeats 2000000 in
theorem w_expr_21 (t : List UInt8) (x : V) (f : Bool) (l : List N) (a : Int) (H : ExprOk (SizeOf.sizeOf (N.mk 21 t x f l a))) (A B K : Option Addr) (c d e : Nat) (W : World) (b : Nat) (s : List UInt8) (i : Int) (hv : RdN (fun k => k < b) W (.agg #[.int .i64 21, .string ⟨t.toArray⟩, .int .i64 x.kind, .int .i64 x.num, .string ⟨x.str.toArray⟩, .slice A x.parts.length c, .slice B x.keys.length d, .bool f, .slice K l.length e, .int .i64 a]) (N.mk 21 t x f l a)) (hr : ∃ o, rightN o (N.mk 21 t x f l a) = true) (hB : BldSt b s W) (hP : PowAt b W) (hroom : s.length + (exprT (N.mk 21 t x f l a)).length ≤ 70368744177664) :
    Calls Tryd.prog 21 #[.agg #[.pointer (some ⟨b, 0, none⟩), .int .i64 i], .agg #[.int .i64 21, .string ⟨t.toArray⟩, .int .i64 x.kind, .int .i64 x.num, .string ⟨x.str.toArray⟩, .slice A x.parts.length c, .slice B x.keys.length d, .bool f, .slice K l.length e, .int .i64 a]] W fun e W' => e = .returned (.tuple #[]) ∧ BldTo b (s ++ exprT (N.mk 21 t x f l a)) W W' := by
  have hx : exprT (N.mk 21 t x f l a) = partT 21 t 0 0 l ++ 91 :: (kidT 1 l ++ [93]) := by rw [exprT]; rfl
  obtain ⟨o, hr⟩ := hr
  obtain ⟨hsd, hsh⟩ := right_said hr
  have hkr := right_kids hr
  obtain ⟨A', c', B', d', K', e', hve, hn⟩ := hv.form
  have htl : t.length ≤ 16777216 := hn.text
  have hlen : l.length ≤ 16777216 := hn.len
  have hsz := fun (y : N) (hy : y ∈ l) => sz_mem (n := (N.mk 21 t x f l a)) hy
  clear hve hn
  simp only [N.kind, N.kids, N.text] at hsh hkr
  rw [hx] at hroom
  have HTx := Lib.hid hx
  have Hrm := Lib.hid hroom
  have HB := Lib.hid hB
  have HPw := Lib.hid hP
  have HV := Lib.hid hv
  have HT0 := Lib.hid (BldTo.of hB (two_al W (.cells #[.pointer (some ⟨b, 0, none⟩), .int .i64 i] 45) (.cells #[.int .i64 21, .string ⟨t.toArray⟩, .int .i64 x.kind, .int .i64 x.num, .string ⟨x.str.toArray⟩, .slice A x.parts.length c, .slice B x.keys.length d, .bool f, .slice K l.length e, .int .i64 a] 28)))
  have HW0 := Lib.hid (show HeldW W.heap.size b i ((W.alloc (.cells #[.pointer (some ⟨b, 0, none⟩), .int .i64 i] 45)).alloc (.cells #[.int .i64 21, .string ⟨t.toArray⟩, .int .i64 x.kind, .int .i64 x.num, .string ⟨x.str.toArray⟩, .slice A x.parts.length c, .slice B x.keys.length d, .bool f, .slice K l.length e, .int .i64 a] 28)) from Held.below (Held.at rfl) (one_al _ _))
  have HX0 := Lib.hid (show HeldN (W.heap.size + 1) _ _ _ _ _ _ _ _ _ _ ((W.alloc (.cells #[.pointer (some ⟨b, 0, none⟩), .int .i64 i] 45)).alloc (.cells #[.int .i64 21, .string ⟨t.toArray⟩, .int .i64 x.kind, .int .i64 x.num, .string ⟨x.str.toArray⟩, .slice A x.parts.length c, .slice B x.keys.length d, .bool f, .slice K l.length e, .int .i64 a] 28)) from Held.at (by simp))
  have Hbw := Lib.hid hB.lt
  have Hbn := Lib.hid (Nat.lt_succ_of_lt hB.lt)
  have hkids : RdNs (fun k => k < b) W (.slice K l.length e) 0 l := kids_of hv
  have HKd := Lib.hid hkids

  have hll : l.length = 2 := by simp only [shapeK] at hsh; simp at hsh; exact hsh.1
  have hkk := all_kinds (l := l) (by simp only [shapeK] at hsh; simp at hsh; simpa using hsh.2)
  have HP0 := Lib.hid (fun (W1 : World) (s1 : List UInt8) (hb : Below b W W1) (hB1 : BldSt b s1 W1) (hr1 : s1.length + (partT 21 t 0 0 l).length ≤ 70368744177664) => w_partT _ H (N.mk 21 t x f l a) 0 (by show 0 < l.length; omega) (hsz _ (List.getElem_mem _)) (hkr _ (List.getElem_mem _)) (hkk _ (List.getElem_mem _)) _ W1 b s1 i (hv.lo hb) hB1 (hP.lo hb) hr1)
  simp only [N.kind, N.text, N.kids] at HP0
  have hl1 : 1 < l.length := by omega
  have HKi := Lib.hid (fun (v : Value) (W1 : World) (s1 : List UInt8) (hv1 : RdN (fun k => k < b) W1 v (l[1]'hl1)) (hb : Below b W W1) (hB1 : BldSt b s1 W1) (hr1 : s1.length + (exprT (l[1]'hl1)).length ≤ 70368744177664) => H (l[1]'hl1) (hsz _ (List.getElem_mem _)) v W1 b s1 i hv1 (hkr _ (List.getElem_mem _)) (hkk _ (List.getElem_mem _)) hB1 (hP.lo hb) hr1)
  have HEl := Lib.hid (fun (W1 : World) (hb : Below b W W1) => (hkids.lo hb).elem 1 hl1)
  have Hk1 := Lib.hid (kidT_at (l := l) (j := 1) hl1)
  have hlA : (1 : Int) < (l.length : Int) := by omega
  have hlB : 1 < l.length := by omega
  generalize l[1]'hl1 = Y at *
  clear hv hB hP hr hx hroom hkids hsd hsh hkr hsz H hkk hll hlB hl1
  go_enter Tryd.func21, Tryd.ntmps21
  obtain ⟨q0, q1⟩ := HeldW.facts HW0.out
  obtain ⟨x0, x1, x2, x3, x4, x5, x6, x7, x8, x9⟩ := HeldN.facts HX0.out
  go_wp2_with fail
  refine (HP0.out _ s HT0.out.bel HT0.out.st (by have := Hrm.out; (try simp only [List.length_append, List.length_cons, List.length_nil] at this ⊢); omega)).mono ?_
  rintro e1 w1 ⟨rfl, hT⟩
  have HT1 := Lib.hid (HT0.out.trans hT)
  have HW1 := Lib.hid (HeldW.to HW0.out Hbw.out hT)
  have HX1 := Lib.hid (HeldN.to HX0.out Hbn.out hT)
  clear hT q0 q1 x0 x1 x2 x3 x4 x5 x6 x7 x8 x9
  obtain ⟨q0, q1⟩ := HeldW.facts HW1.out
  obtain ⟨x0, x1, x2, x3, x4, x5, x6, x7, x8, x9⟩ := HeldN.facts HX1.out
  go_wp2_with fail
  refine (bld_String b (s ++ partT 21 t 0 0 l) [91] _ HT1.out.st (by have := Hrm.out; (try simp only [List.length_append, List.length_cons, List.length_nil] at this ⊢); omega)).mono ?_
  rintro e2 w2 ⟨rfl, hT⟩
  have HT2 := Lib.hid (HT1.out.trans hT)
  have HW2 := Lib.hid (HeldW.to HW1.out Hbw.out hT)
  have HX2 := Lib.hid (HeldN.to HX1.out Hbn.out hT)
  clear hT q0 q1 x0 x1 x2 x3 x4 x5 x6 x7 x8 x9
  obtain ⟨q0, q1⟩ := HeldW.facts HW2.out
  obtain ⟨x0, x1, x2, x3, x4, x5, x6, x7, x8, x9⟩ := HeldN.facts HX2.out
  obtain ⟨g, off, A2, c2, B2, d2, K2, e2, rfl, _, hk', k0, k1, k2, k3, k4, k5, k6, k7, k8, k9⟩ := HEl.out _ HT2.out.bel
  simp only [Nat.one_mul] at k0 k1 k2 k3 k4 k5 k6 k7 k8 k9
  have HY := Lib.hid hk'.rd
  clear hk'
  go_upto_region 28 with fail
  go_region_with (first
    | (go_at_call 21; refine (HKi.out _ _ (s ++ partT 21 t 0 0 l ++ [91]) (HY.out.below (drew_b _)) (HT2.out.bel.drew) (HT2.out.st.below (drew_b _)) (by have := Hrm.out; rw [Hk1.out] at this; simp only [List.length_append, List.length_cons, List.length_nil] at this ⊢; omega)).mono ?_; rintro e3 w3 ⟨rfl, hT⟩; have hT' := BldTo.trans (BldTo.of HT2.out.st (drew_b _)) hT; have HT3 := Lib.hid (HT2.out.trans hT'); have HW3 := Lib.hid (HeldW.to HW2.out Hbw.out hT'); clear hT hT')
    | fail)
  all_goals clear q0 q1 x0 x1 x2 x3 x4 x5 x6 x7 x8 x9 k0 k1 k2 k3 k4 k5 k6 k7 k8 k9
  all_goals obtain ⟨q0, q1⟩ := HeldW.facts HW3.out
  all_goals go_wp2_with fail
  all_goals refine (bld_String b (s ++ partT 21 t 0 0 l ++ [91] ++ exprT Y) [93] _ HT3.out.st (by have := Hrm.out; rw [Hk1.out] at this; simp only [List.length_append, List.length_cons, List.length_nil] at this ⊢; omega)).mono ?_
  all_goals rintro e4 w4 ⟨rfl, hT⟩
  all_goals have HT4 := Lib.hid (HT3.out.trans hT)
  all_goals clear hT q0 q1
  all_goals go_wp2_with fail
  all_goals go_end0
  all_goals exact ⟨rfl, by rw [HTx.out, Hk1.out]; have := HT4.out; simpa using this⟩
set_option maxRecDepth 20000 in
set_option maxHeartbeats 2000000 in
theorem w_expr_22 (t : List UInt8) (x : V) (f : Bool) (l : List N) (a : Int) (H : ExprOk (SizeOf.sizeOf (N.mk 22 t x f l a))) (A B K : Option Addr) (c d e : Nat) (W : World) (b : Nat) (s : List UInt8) (i : Int) (hv : RdN (fun k => k < b) W (.agg #[.int .i64 22, .string ⟨t.toArray⟩, .int .i64 x.kind, .int .i64 x.num, .string ⟨x.str.toArray⟩, .slice A x.parts.length c, .slice B x.keys.length d, .bool f, .slice K l.length e, .int .i64 a]) (N.mk 22 t x f l a)) (hr : ∃ o, rightN o (N.mk 22 t x f l a) = true) (hB : BldSt b s W) (hP : PowAt b W) (hroom : s.length + (exprT (N.mk 22 t x f l a)).length ≤ 70368744177664) :
    Calls Tryd.prog 21 #[.agg #[.pointer (some ⟨b, 0, none⟩), .int .i64 i], .agg #[.int .i64 22, .string ⟨t.toArray⟩, .int .i64 x.kind, .int .i64 x.num, .string ⟨x.str.toArray⟩, .slice A x.parts.length c, .slice B x.keys.length d, .bool f, .slice K l.length e, .int .i64 a]] W fun e W' => e = .returned (.tuple #[]) ∧ BldTo b (s ++ exprT (N.mk 22 t x f l a)) W W' := by
  have hx : exprT (N.mk 22 t x f l a) = partT 22 t 0 0 l ++ 46 :: t := by rw [exprT]; rfl
  obtain ⟨o, hr⟩ := hr
  obtain ⟨hsd, hsh⟩ := right_said hr
  have hkr := right_kids hr
  obtain ⟨A', c', B', d', K', e', hve, hn⟩ := hv.form
  have htl : t.length ≤ 16777216 := hn.text
  have hlen : l.length ≤ 16777216 := hn.len
  have hsz := fun (y : N) (hy : y ∈ l) => sz_mem (n := (N.mk 22 t x f l a)) hy
  clear hve hn
  simp only [N.kind, N.kids, N.text] at hsh hkr
  rw [hx] at hroom
  have HTx := Lib.hid hx
  have Hrm := Lib.hid hroom
  have HB := Lib.hid hB
  have HPw := Lib.hid hP
  have HV := Lib.hid hv
  have HT0 := Lib.hid (BldTo.of hB (two_al W (.cells #[.pointer (some ⟨b, 0, none⟩), .int .i64 i] 45) (.cells #[.int .i64 22, .string ⟨t.toArray⟩, .int .i64 x.kind, .int .i64 x.num, .string ⟨x.str.toArray⟩, .slice A x.parts.length c, .slice B x.keys.length d, .bool f, .slice K l.length e, .int .i64 a] 28)))
  have HW0 := Lib.hid (show HeldW W.heap.size b i ((W.alloc (.cells #[.pointer (some ⟨b, 0, none⟩), .int .i64 i] 45)).alloc (.cells #[.int .i64 22, .string ⟨t.toArray⟩, .int .i64 x.kind, .int .i64 x.num, .string ⟨x.str.toArray⟩, .slice A x.parts.length c, .slice B x.keys.length d, .bool f, .slice K l.length e, .int .i64 a] 28)) from Held.below (Held.at rfl) (one_al _ _))
  have HX0 := Lib.hid (show HeldN (W.heap.size + 1) _ _ _ _ _ _ _ _ _ _ ((W.alloc (.cells #[.pointer (some ⟨b, 0, none⟩), .int .i64 i] 45)).alloc (.cells #[.int .i64 22, .string ⟨t.toArray⟩, .int .i64 x.kind, .int .i64 x.num, .string ⟨x.str.toArray⟩, .slice A x.parts.length c, .slice B x.keys.length d, .bool f, .slice K l.length e, .int .i64 a] 28)) from Held.at (by simp))
  have Hbw := Lib.hid hB.lt
  have Hbn := Lib.hid (Nat.lt_succ_of_lt hB.lt)
  have hkids : RdNs (fun k => k < b) W (.slice K l.length e) 0 l := kids_of hv
  have HKd := Lib.hid hkids

  have hll : l.length = 1 := by simp only [shapeK] at hsh; simp at hsh; exact hsh.1
  have hkk := all_kinds (l := l) (by simp only [shapeK] at hsh; simp at hsh; simpa using hsh.2)
  have HP0 := Lib.hid (fun (W1 : World) (s1 : List UInt8) (hb : Below b W W1) (hB1 : BldSt b s1 W1) (hr1 : s1.length + (partT 22 t 0 0 l).length ≤ 70368744177664) => w_partT _ H (N.mk 22 t x f l a) 0 (by show 0 < l.length; omega) (hsz _ (List.getElem_mem _)) (hkr _ (List.getElem_mem _)) (hkk _ (List.getElem_mem _)) _ W1 b s1 i (hv.lo hb) hB1 (hP.lo hb) hr1)
  simp only [N.kind, N.text, N.kids] at HP0
  have hcat : ¬ 9223372036854775807 < 1 + t.length := by omega
  clear hv hB hP hr hx hroom hkids hsd hsh hkr hsz H hkk hll
  go_enter Tryd.func21, Tryd.ntmps21
  obtain ⟨q0, q1⟩ := HeldW.facts HW0.out
  obtain ⟨x0, x1, x2, x3, x4, x5, x6, x7, x8, x9⟩ := HeldN.facts HX0.out
  go_wp2_with fail
  refine (HP0.out _ s HT0.out.bel HT0.out.st (by have := Hrm.out; (try simp only [List.length_append, List.length_cons, List.length_nil] at this ⊢); omega)).mono ?_
  rintro e1 w1 ⟨rfl, hT⟩
  have HT1 := Lib.hid (HT0.out.trans hT)
  have HW1 := Lib.hid (HeldW.to HW0.out Hbw.out hT)
  have HX1 := Lib.hid (HeldN.to HX0.out Hbn.out hT)
  clear hT q0 q1 x0 x1 x2 x3 x4 x5 x6 x7 x8 x9
  obtain ⟨q0, q1⟩ := HeldW.facts HW1.out
  obtain ⟨x0, x1, x2, x3, x4, x5, x6, x7, x8, x9⟩ := HeldN.facts HX1.out
  go_wp2_with fail
  rw [show (⟨#[46]⟩ ++ ⟨t.toArray⟩ : ByteArray) = ⟨([46] ++ t).toArray⟩ from ba_app [46] t]
  refine (bld_String b (s ++ partT 22 t 0 0 l) ([46] ++ t) _ HT1.out.st (by have := Hrm.out; (try simp only [List.length_append, List.length_cons, List.length_nil] at this ⊢); omega)).mono ?_
  rintro e2 w2 ⟨rfl, hT⟩
  have HT2 := Lib.hid (HT1.out.trans hT)
  have HW2 := Lib.hid (HeldW.to HW1.out Hbw.out hT)
  have HX2 := Lib.hid (HeldN.to HX1.out Hbn.out hT)
  clear hT q0 q1 x0 x1 x2 x3 x4 x5 x6 x7 x8 x9
  obtain ⟨q0, q1⟩ := HeldW.facts HW2.out
  obtain ⟨x0, x1, x2, x3, x4, x5, x6, x7, x8, x9⟩ := HeldN.facts HX2.out
  go_wp2_with fail
  go_end0
  exact ⟨rfl, by rw [HTx.out]; have := HT2.out; simpa using this⟩
theorem expr_kinds {k : Int} (h : exprK k = true ∨ k = 20) : k = 13 ∨ k = 14 ∨ k = 15 ∨ k = 16 ∨ k = 17 ∨ k = 18 ∨ k = 19 ∨ k = 20 ∨ k = 21 ∨ k = 22 := by
  rcases h with h | h
  · unfold exprK at h
    have h1 : 13 ≤ k ∧ k ≤ 22 := by
      rw [Bool.and_eq_true, Bool.and_eq_true] at h
      exact ⟨of_decide_eq_true h.1, of_decide_eq_true h.2.1⟩
    omega
  · omega
theorem w_expr : ∀ m, ExprOk m := by
  intro m
  induction m with
  | zero => exact fun n hn => absurd hn (Nat.not_lt_zero _)
  | succ m ih =>
    intro n hn v W b s i hv hr hk hB hP hroom
    have H : ExprOk (SizeOf.sizeOf n) := fun y hy => ih y (by omega)
    obtain ⟨A, c, B, d, K, e, rfl, _⟩ := hv.form
    cases n with
    | mk k t x f l a =>
    have hk' := expr_kinds (k := k) hk
    rcases hk' with rfl | rfl | rfl | rfl | rfl | rfl | rfl | rfl | rfl | rfl
    · exact w_expr_13 t x f l a H A B K c d e W b s i hv hr hB hP hroom
    · exact w_expr_14 t x f l a H A B K c d e W b s i hv hr hB hP hroom
    · exact w_expr_15 t x f l a H A B K c d e W b s i hv hr hB hP hroom
    · exact w_expr_16 t x f l a H A B K c d e W b s i hv hr hB hP hroom
    · exact w_expr_17 t x f l a H A B K c d e W b s i hv hr hB hP hroom
    · exact w_expr_18 t x f l a H A B K c d e W b s i hv hr hB hP hroom
    · exact w_expr_19 t x f l a H A B K c d e W b s i hv hr hB hP hroom
    · exact w_expr_20 t x f l a H A B K c d e W b s i hv hr hB hP hroom
    · exact w_expr_21 t x f l a H A B K c d e W b s i hv hr hB hP hroom
    · exact w_expr_22 t x f l a H A B K c d e W b s i hv hr hB hP hroom
end Go.Proofs.YthlfeiiolafonaaDoor
