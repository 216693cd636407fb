/- Contracts of the writer's block, statement$1, statement$2, statement. Printed by gen_ws.py. Contracts of the writer's statement$1, statement$2, statement. Printed by gen_ws2.py. -/
import Derived.Test.YthlfeiiolafonaaDoorPrintWE
set_option linter.unusedVariables false
set_option linter.unusedSimpArgs false
namespace Go.Proofs.YthlfeiiolafonaaDoor
open Go.RowKit Go.IntWalk

theorem repeat_tabs (c : Nat) : Lib.repeatL [9] c = tabsT c := by
  unfold tabsT
  induction c with
  | zero => rfl
  | succ c ih =>
    rw [List.replicate_succ, ← ih]
    simp [Lib.repeatL, List.replicate_succ]
theorem rep_tabs (c : Nat) (z : Int) (hz : z = (c : Int)) (hc : c ≤ 140737488355328) (w : World) :
    Calls Tryd.prog 44 #[.string ⟨#[9]⟩, .int .i64 z] w fun e w' => e = .returned (.string ⟨(tabsT c).toArray⟩) ∧ Below w.heap.size w w' := by
  subst hz
  have h := Tryd.strings_Repeat ⟨#[9]⟩ c w (by omega) (by show 1 * c ≤ _; omega)
  rwa [show (⟨#[9]⟩ : ByteArray).data.toList = [9] from rfl, repeat_tabs] at h
theorem stmtsT_take : ∀ (l : List N) (w k : Nat) (h : k < l.length), stmtsT w (l.take (k + 1)) = stmtsT w (l.take k) ++ (tabsT w ++ stmtT w l[k] ++ [10])
  | x :: l, w, 0, h => by simp [stmtsT]
  | x :: l, w, k + 1, h => by
    rw [List.take_succ_cons, List.take_succ_cons, stmtsT, stmtsT, stmtsT_take l w k (by simpa using h)]
    simp only [List.getElem_cons_succ, List.append_assoc]
theorem stmtsT_len_take (l : List N) (w k : Nat) : (stmtsT w (l.take k)).length ≤ (stmtsT w l).length := by
  induction l generalizing k with
  | nil => simp
  | cons x l ih =>
    cases k with
    | zero => simp [stmtsT]
    | succ k =>
      rw [List.take_succ_cons, stmtsT, stmtsT]
      have := ih k
      simp only [List.length_append]
      omega
theorem blkT_at {w : Nat} : ∀ {l : List N} {j : Nat} (h : j < l.length), blkT w j l = blockT w l[j]
  | x :: l, 0, h => by rw [blkT]; rfl
  | x :: l, j + 1, h => by
    rw [blkT]
    exact blkT_at (by simpa using h)
theorem elseT_at {w : Nat} : ∀ {l : List N} {j : Nat} (h : j < l.length), elseT w j l = [32, 101, 108, 115, 101, 32] ++ (if l[j].kind = 7 then stmtT w l[j] else blockT w l[j])
  | x :: l, 0, h => by rw [elseT]; rfl
  | x :: l, j + 1, h => by
    rw [elseT]
    exact elseT_at (by simpa using h)
theorem tabsT_len (n : Nat) : (tabsT n).length = n := by simp [tabsT]
/-- the writer's statement, at all nodes smaller than so -/
def StmtOk (m : Nat) : Prop := ∀ (n : N), SizeOf.sizeOf n < m → ∀ (v : Value) (W : World) (b : Nat) (s : List UInt8) (d : Nat), RdN (fun k => k < b) W v n → (∃ o, rightN o n = true) → stmtK n.kind = true → BldSt b s W → PowAt b W → s.length + (stmtT d n).length ≤ 70368744177664 →
  Calls Tryd.prog 45 #[.agg #[.pointer (some ⟨b, 0, none⟩), .int .i64 (d : Int)], v] W fun e W' => e = .returned (.tuple #[]) ∧ BldTo b (s ++ stmtT d n) W W'
set_option maxRecDepth 20000 in
set_option maxHeartbeats 4000000 in
theorem w_block (n : N) (H : StmtOk (SizeOf.sizeOf n)) (v : Value) (W : World) (b : Nat) (s : List UInt8) (i : Nat) (hv : RdN (fun k => k < b) W v n) (hr : ∃ o, rightN o n = true) (hk : n.kind = 4) (hB : BldSt b s W) (hP : PowAt b W) (hroom : s.length + (blockT i n).length ≤ 70368744177664) :
    Calls Tryd.prog 26 #[.agg #[.pointer (some ⟨b, 0, none⟩), .int .i64 (i : Int)], v] W fun e W' => e = .returned (.tuple #[]) ∧ BldTo b (s ++ blockT i n) W W' := by
  have hx : blockT i n = [123, 10] ++ stmtsT (i + 1) n.kids ++ tabsT i ++ [125] := by cases n; rw [blockT]; rfl
  obtain ⟨o, hr⟩ := hr
  obtain ⟨_, hsh⟩ := right_said hr
  have hkr := right_kids hr
  obtain ⟨A, c, B, d, K, e, rfl, hn⟩ := hv.form
  have hlen := hn.len
  have HKd := Lib.hid hn.kids
  have hst : ∀ y ∈ n.kids, stmtK y.kind = true := by
    rw [hk] at hsh
    simp only [shapeK] at hsh
    intro y hy
    have h2 : (n.kids.map N.kind).all stmtK = true := by simpa using hsh
    rw [List.all_map, List.all_eq_true] at h2
    exact h2 y hy
  have HC := Lib.hid (fun (y : N) (hy : y ∈ n.kids) (v : Value) (W1 : World) (s1 : List UInt8) (hv1 : RdN (fun k => k < b) W1 v y) (hb : Below b W W1) (hB1 : BldSt b s1 W1) (z : Int) (hz : z = ((i + 1 : Nat) : Int)) (hr1 : s1.length + (stmtT (i + 1) y).length ≤ 70368744177664) => hz ▸ H y (sz_mem hy) v W1 b s1 (i + 1) hv1 (hkr y hy) (hst y hy) hB1 (hP.lo hb) hr1)
  rw [hx] at hroom
  have HTx := Lib.hid hx
  have Hrm := Lib.hid (show s.length + (2 + (stmtsT (i + 1) n.kids).length + i + 1) ≤ 70368744177664 by simp only [List.length_append, tabsT_len, List.length_cons, List.length_nil] at hroom; omega)
  have HT0 := Lib.hid (BldTo.of hB (two_al W (.cells #[.pointer (some ⟨b, 0, none⟩), .int .i64 (i : Int)] 45) (boxN n A c B d K e)))
  have HW0 := Lib.hid (show HeldW W.heap.size b i ((W.alloc (.cells #[.pointer (some ⟨b, 0, none⟩), .int .i64 (i : Int)] 45)).alloc (boxN n A c B d K e)) from Held.below (Held.at rfl) (one_al _ _))
  have HX0 := Lib.hid (show HeldN (W.heap.size + 1) _ _ _ _ _ _ _ _ _ _ ((W.alloc (.cells #[.pointer (some ⟨b, 0, none⟩), .int .i64 (i : Int)] 45)).alloc (boxN n A c B d K e)) from Held.at (by simp))
  have Hbw := Lib.hid hB.lt
  have Hbn := Lib.hid (Nat.lt_succ_of_lt hB.lt)
  have hi0 : (0 : Int) ≤ (i : Int) := by omega
  have hi1 : (i : Int) ≤ 70368744177664 := by have := Hrm.out; omega
  clear hv hn hr hsh hkr hst hk hB hP hroom hx H
  go_enter Tryd.func26, Tryd.ntmps26
  obtain ⟨q0, q1⟩ := HeldW.facts HW0.out
  obtain ⟨x0, x1, x2, x3, x4, x5, x6, x7, x8, x9⟩ := HeldN.facts HX0.out
  go_wp2_with fail
  refine (bld_String b s [123, 10] _ HT0.out.st (by have := Hrm.out; (try simp only [List.length_append, List.length_cons, List.length_nil] at this ⊢); omega)).mono ?_
  rintro e1 w1 ⟨rfl, hT⟩
  have HT1 := Lib.hid (HT0.out.trans hT)
  have HW1 := Lib.hid (HeldW.to HW0.out Hbw.out hT)
  have HX1 := Lib.hid (HeldN.to HX0.out Hbn.out hT)
  have Hg1 := Lib.hid (show b < w1.heap.size from hT.st.lt)
  clear hT q0 q1 x0 x1 x2 x3 x4 x5 x6 x7 x8 x9
  obtain ⟨q0, q1⟩ := HeldW.facts HW1.out
  obtain ⟨p0, p1⟩ := HeldW.al HW1.out
  have x8 : ∀ X, (w1.alloc X).cell? ⟨W.heap.size + 1, 8, none⟩ = some (.slice K n.kids.length e) := fun X => Held.cell (Held.below HX1.out (one_al w1 X)) 8 rfl
  have HI := Lib.hid (show HeldW w1.heap.size b ((i : Int) + 1) (w1.alloc (.cells #[.pointer (some ⟨b, 0, none⟩), .int .i64 ((i : Int) + 1)] 45)) from Held.at rfl)
  go_wp2_with fail
  clear q0 q1 p0 p1 x8
  go_loopw [19] (fun j wr => ∃ k, k ≤ n.kids.length ∧ j = .int .i64 (k : Int) ∧ BldTo b (s ++ [123, 10] ++ stmtsT (i + 1) (n.kids.take k)) W wr ∧ HeldW W.heap.size b i wr ∧ HeldW w1.heap.size b ((i : Int) + 1) wr) (fun j _ => n.kids.length - (intOf j).toNat)
  case atStart => exact ⟨0, Nat.zero_le _, rfl, by rw [List.take_zero, stmtsT, List.append_nil]; exact HT1.out.al _, Held.below HW1.out (one_al _ _), HI.out⟩
  case round =>
    obtain ⟨k, hk, rfl, hT, hW, hI⟩ := hrel
    have HT := Lib.hid hT
    have HW2 := Lib.hid hW
    have HI2 := Lib.hid hI
    clear hT hW hI
    by_cases hlt : k < n.kids.length
    · have hlA : (k : Int) < (n.kids.length : Int) := by omega
      have h00 : (0 : Int) ≤ (k : Int) := by omega
      have hst := stmtsT_take n.kids (i + 1) k hlt
      have hln := stmtsT_len_take n.kids (i + 1) (k + 1)
      have HCk := Lib.hid (HC.out n.kids[k] (List.getElem_mem hlt))
      obtain ⟨g, off, A', c', B', d', K', e', rfl, _, hk', k0, k1, k2, k3, k4, k5, k6, k7, k8, k9⟩ := (HKd.out.lo HT.out.bel).elem k hlt
      generalize n.kids[k] = Y at *
      generalize stmtsT (i + 1) (n.kids.take k) = r at *
      rw [hst] at hln
      have HS := Lib.hid hst
      have Hln := Lib.hid (show r.length + (i + 1 + (stmtT (i + 1) Y).length + 1) ≤ (stmtsT (i + 1) n.kids).length by simp only [List.length_append, tabsT_len, List.length_cons, List.length_nil] at hln; omega)
      have HY := Lib.hid (RdN.below (one_al wr (boxN Y A' c' B' d' K' e')) hk'.rd)
      clear hk' hst hln
      have HX := Lib.hid (show HeldN wr.heap.size _ _ _ _ _ _ _ _ _ _ (wr.alloc (boxN Y A' c' B' d' K' e')) from Held.at rfl)
      have HTa := Lib.hid (HT.out.al (boxN Y A' c' B' d' K' e'))
      have HWa := Lib.hid (Held.below HW2.out (one_al wr (boxN Y A' c' B' d' K' e')))
      have HIa := Lib.hid (Held.below HI2.out (one_al wr (boxN Y A' c' B' d' K' e')))
      have Hbk := Lib.hid (show b < wr.heap.size from HT.out.st.lt)
      obtain ⟨q0, q1⟩ := HeldW.al HW2.out
      obtain ⟨z0, z1⟩ := HeldW.al HI2.out
      go_upto_region 6 with fail
      clear k0 k1 k2 k3 k4 k5 k6 k7 k8 k9
      go_region_with (first
        | (go_at_call 44; refine (rep_tabs (i + 1) _ (by omega) (by have := Hrm.out; omega) _).mono ?_; rintro e2 w2 ⟨rfl, hb⟩; have hbb := bthen (drew_b (wr.alloc (boxN Y A' c' B' d' K' e'))) hb; have HTb := Lib.hid (HTa.out.more hbb); have HWb := Lib.hid (Held.below HWa.out hbb); have HIb := Lib.hid (Held.below HIa.out hbb); have HXb := Lib.hid (Held.below HX.out hbb); have HYb := Lib.hid (HY.out.below hbb); obtain ⟨y0, y1⟩ := HeldW.facts HWb.out; clear hbb hb)
        | (go_at_call 23; refine (bld_String b (s ++ [123, 10] ++ r) (tabsT (i + 1)) _ HTb.out.st (by have h1 := Hrm.out; have h2 := Hln.out; simp only [List.length_append, List.length_cons, List.length_nil, tabsT_len]; omega)).mono ?_; rintro e3 w3 ⟨rfl, hT⟩; have HTc := Lib.hid (HTb.out.trans hT); have HWc := Lib.hid (HeldW.to HWb.out Hbw.out hT); have HIc := Lib.hid (HeldW.to HIb.out Hg1.out hT); have HXc := Lib.hid (HeldN.to HXb.out Hbk.out hT); have HYc := Lib.hid (HYb.out.lo hT.bel); clear hT)
        | fail)
      all_goals clear q0 q1 z0 z1 y0 y1
      all_goals obtain ⟨q0, q1⟩ := HeldW.facts HWc.out
      all_goals obtain ⟨z0, z1⟩ := HeldW.facts HIc.out
      all_goals obtain ⟨x0, x1, x2, x3, x4, x5, x6, x7, x8, x9⟩ := HeldN.facts HXc.out
      all_goals go_wp2_with fail
      all_goals refine (HCk.out _ _ (s ++ [123, 10] ++ r ++ tabsT (i + 1)) HYc.out HTc.out.bel HTc.out.st _ (by omega) (by have h1 := Hrm.out; have h2 := Hln.out; simp only [List.length_append, List.length_cons, List.length_nil, tabsT_len]; omega)).mono ?_
      all_goals rintro e4 w4 ⟨rfl, hT⟩
      all_goals have HTd := Lib.hid (HTc.out.trans hT)
      all_goals have HWd := Lib.hid (HeldW.to HWc.out Hbw.out hT)
      all_goals have HId := Lib.hid (HeldW.to HIc.out Hg1.out hT)
      all_goals clear hT q0 q1 z0 z1 x0 x1 x2 x3 x4 x5 x6 x7 x8 x9
      all_goals obtain ⟨q0, q1⟩ := HeldW.facts HWd.out
      all_goals go_wp2_with fail
      all_goals refine (bld_String b (s ++ [123, 10] ++ r ++ tabsT (i + 1) ++ stmtT (i + 1) Y) [10] _ HTd.out.st (by have h1 := Hrm.out; have h2 := Hln.out; simp only [List.length_append, List.length_cons, List.length_nil, tabsT_len]; omega)).mono ?_
      all_goals rintro e5 w5 ⟨rfl, hT⟩
      all_goals have HTe := Lib.hid (HTd.out.trans hT)
      all_goals have HWe := Lib.hid (HeldW.to HWd.out Hbw.out hT)
      all_goals have HIe := Lib.hid (HeldW.to HId.out Hg1.out hT)
      all_goals clear hT q0 q1
      all_goals go_wp2_with fail
      all_goals exact ⟨⟨k + 1, by omega, by go_num, by rw [HS.out]; have := HTe.out; simpa using this, HWe.out, HIe.out⟩, by simp [intOf]; omega⟩
    · have hlA : ¬ (k : Int) < (n.kids.length : Int) := by omega
      have hkk : n.kids.take k = n.kids := List.take_of_length_le (by omega)
      rw [hkk] at HT
      clear hkk
      obtain ⟨q0, q1⟩ := HeldW.facts HW2.out
      have hcat : ¬ 9223372036854775807 < (tabsT i).length + 1 := by rw [tabsT_len]; omega
      go_upto_region 10 with fail
      go_region_with (first
        | (go_at_call 44; refine (rep_tabs i _ rfl (by have := Hrm.out; omega) _).mono ?_; rintro e2 w2 ⟨rfl, hb⟩; have hbb := bthen (drew_b wr) hb; have HTb := Lib.hid (HT.out.more hbb); have HWb := Lib.hid (Held.below HW2.out hbb); obtain ⟨y0, y1⟩ := HeldW.facts HWb.out; clear hbb hb)
        | (go_at_call 23; rw [show (⟨(tabsT i).toArray⟩ ++ ⟨#[125]⟩ : ByteArray) = ⟨(tabsT i ++ [125]).toArray⟩ from ba_app (tabsT i) [125]]; refine (bld_String b (s ++ [123, 10] ++ stmtsT (i + 1) n.kids) (tabsT i ++ [125]) _ HTb.out.st (by have h1 := Hrm.out; simp only [List.length_append, List.length_cons, List.length_nil, tabsT_len]; omega)).mono ?_; rintro e3 w3 ⟨rfl, hT⟩; have HTc := Lib.hid (HTb.out.trans hT); clear hT)
        | fail)
      all_goals go_wp2_with fail
      all_goals go_end0
      all_goals exact ⟨rfl, by rw [HTx.out]; have := HTc.out; simpa using this⟩
end Go.Proofs.YthlfeiiolafonaaDoor
namespace Go.Proofs.YthlfeiiolafonaaDoor
open Go.RowKit Go.IntWalk

theorem behT_pos {s : List UInt8} : ∀ {l : List N} (h : 0 < l.length), behT s l = s ++ exprT (l[0]'h)
  | x :: l, h => rfl
theorem if_third : ∀ {l : List N}, l.length = 3 → shapeK 7 (l.map N.kind) = true → ∀ (h3 : 2 < l.length), (l[2]'h3).kind = 4 ∨ (l[2]'h3).kind = 7
  | [y, z, u], _, hsh, h3 => by
    simp only [shapeK] at hsh
    simp at hsh
    exact hsh.2.2
theorem behT_nil {s : List UInt8} {l : List N} (h : ¬ 0 < l.length) : behT s l = [] := by
  obtain rfl : l = [] := List.length_eq_zero_iff.1 (by omega)
  rfl
set_option maxRecDepth 20000 in
set_option maxHeartbeats 2000000 in
theorem w_line (l : List N) (hR : ∀ n ∈ l, ∃ o, rightN o n = true) (hK : ∀ n ∈ l, exprK n.kind = true ∨ n.kind = 20) (K : Option Addr) (e : Nat) (gw gn : Nat) (c0 c1 c2 c3 c4 c5 c6 c7 c9 : Value) (W : World) (b : Nat) (s : List UInt8) (i : Int) (op sg : List UInt8)
    (hW : HeldW gw b i W) (hN : HeldN gn c0 c1 c2 c3 c4 c5 c6 c7 (.slice K l.length e) c9 W) (hgw : b < gw) (hgn : b < gn) (hl : RdNs (fun k => k < b) W (.slice K l.length e) 0 l) (hlen : l.length ≤ 16777216) (hB : BldSt b s W) (hP : PowAt b W) (hroom : s.length + (op.length + (behT sg l).length + 1) ≤ 70368744177664) :
    Calls Tryd.prog 65 #[.string ⟨op.toArray⟩, .string ⟨sg.toArray⟩, .pointer (some ⟨gw, 0, none⟩), .pointer (some ⟨gn, 0, none⟩)] W fun e W' => e = .returned (.tuple #[]) ∧ BldTo b (s ++ op ++ behT sg l ++ [59]) W W' := by
  have HB := Lib.hid hB
  have HPw := Lib.hid hP
  have HW := Lib.hid hW
  have HX := Lib.hid hN
  have Hgw := Lib.hid hgw
  have Hgn := Lib.hid hgn
  obtain ⟨q0, q1⟩ := HeldW.facts hW
  by_cases h0 : 0 < l.length
  · have hbe := behT_pos (s := sg) h0
    rw [hbe] at hroom ⊢
    have hmem : l[0]'h0 ∈ l := List.getElem_mem h0
    have HC := Lib.hid (fun (v : Value) (W1 : World) (s1 : List UInt8) (hv1 : RdN (fun k => k < b) W1 v (l[0]'h0)) (hb : Below b W W1) (hB1 : BldSt b s1 W1) (hr1 : s1.length + (exprT (l[0]'h0)).length ≤ 70368744177664) => w_expr (SizeOf.sizeOf (l[0]'h0) + 1) (l[0]'h0) (Nat.lt_succ_self _) v W1 b s1 i hv1 (hR _ hmem) (hK _ hmem) hB1 (hP.lo hb) hr1)
    have HEl := Lib.hid (fun (W1 : World) (hb : Below b W W1) => (hl.lo hb).elem 0 h0)
    have hlA : (0 : Int) < (l.length : Int) := by omega
    have Hrm := Lib.hid (show s.length + (op.length + (sg.length + (exprT (l[0]'h0)).length) + 1) ≤ 70368744177664 by rw [List.length_append] at hroom; exact hroom)
    generalize l[0]'h0 = Y at *
    clear hR hK hW hN hgw hgn hl hB hP hroom hbe hmem
    go_enter Tryd.func65, Tryd.ntmps65
    go_wp2_with fail
    refine (bld_String b s op _ HB.out (by have := Hrm.out; (try simp only [List.length_append, List.length_cons, List.length_nil] at this ⊢); omega)).mono ?_
    rintro e1 w1 ⟨rfl, hT⟩
    have HT := Lib.hid hT
    have HW1 := Lib.hid (HeldW.to HW.out Hgw.out hT)
    have HX1 := Lib.hid (HeldN.to HX.out Hgn.out hT)
    clear hT q0 q1
    obtain ⟨q0, q1⟩ := HeldW.facts HW1.out
    obtain ⟨x0, x1, x2, x3, x4, x5, x6, x7, x8, x9⟩ := HeldN.facts HX1.out
    clear x0 x1 x2 x3 x4 x5 x6 x7 x9
    go_wp2_with fail
    refine (bld_String b (s ++ op) sg _ HT.out.st (by have := Hrm.out; (try simp only [List.length_append, List.length_cons, List.length_nil] at this ⊢); omega)).mono ?_
    rintro e1 w2 ⟨rfl, hT⟩
    have HT2 := Lib.hid (HT.out.trans hT)
    have HW2 := Lib.hid (HeldW.to HW1.out Hgw.out hT)
    have HX2 := Lib.hid (HeldN.to HX1.out Hgn.out hT)
    clear hT q0 q1 x8
    obtain ⟨q0, q1⟩ := HeldW.facts HW2.out
    obtain ⟨x0, x1, x2, x3, x4, x5, x6, x7, x8, x9⟩ := HeldN.facts HX2.out
    clear x0 x1 x2 x3 x4 x5 x6 x7 x9
    obtain ⟨g, off, A2, c2', B2, d2, K2, e2, rfl, _, hk', k0, k1, k2, k3, k4, k5, k6, k7, k8, k9⟩ := HEl.out _ HT2.out.bel
    simp only [Nat.zero_mul, Nat.add_zero] at k0 k1 k2 k3 k4 k5 k6 k7 k8 k9
    have HY := Lib.hid hk'.rd
    clear hk'
    go_upto_region 3 with fail
    go_region_with (first
      | (go_at_call 21; refine (HC.out _ _ (s ++ op ++ sg) (HY.out.below (drew_b _)) (HT2.out.bel.drew) (HT2.out.st.below (drew_b _)) (by have := Hrm.out; (try simp only [List.length_append, List.length_cons, List.length_nil] at this ⊢); omega)).mono ?_; rintro e3 w3 ⟨rfl, hT⟩; have hT' := BldTo.trans (BldTo.of HT2.out.st (drew_b _)) hT; have HT3 := Lib.hid (HT2.out.trans hT'); have HW3 := Lib.hid (HeldW.to HW2.out Hgw.out hT'); clear hT hT')
      | fail)
    all_goals clear q0 q1 x8 k0 k1 k2 k3 k4 k5 k6 k7 k8 k9
    all_goals obtain ⟨q0, q1⟩ := HeldW.facts HW3.out
    all_goals go_wp2_with fail
    all_goals refine (bld_String b (s ++ op ++ sg ++ exprT Y) [59] _ HT3.out.st (by have := Hrm.out; (try simp only [List.length_append, List.length_cons, List.length_nil] at this ⊢); omega)).mono ?_
    all_goals rintro e4 w4 ⟨rfl, hT⟩
    all_goals have HT4 := Lib.hid (HT3.out.trans hT)
    all_goals clear hT q0 q1
    all_goals go_wp2_with fail
    all_goals go_end0
    all_goals exact ⟨rfl, by have := HT4.out; simpa using this⟩
  · have hbe := behT_nil (s := sg) h0
    rw [hbe] at hroom ⊢
    have hlA : ¬ (0 : Int) < (l.length : Int) := by omega
    have Hrm := Lib.hid (show s.length + (op.length + 1) ≤ 70368744177664 by simp at hroom; omega)
    clear hR hK hW hN hgw hgn hl hB hP hroom hbe
    go_enter Tryd.func65, Tryd.ntmps65
    go_wp2_with fail
    refine (bld_String b s op _ HB.out (by have := Hrm.out; (try simp only [List.length_append, List.length_cons, List.length_nil] at this ⊢); omega)).mono ?_
    rintro e1 w1 ⟨rfl, hT⟩
    have HT := Lib.hid hT
    have HW1 := Lib.hid (HeldW.to HW.out Hgw.out hT)
    have HX1 := Lib.hid (HeldN.to HX.out Hgn.out hT)
    clear hT q0 q1
    obtain ⟨q0, q1⟩ := HeldW.facts HW1.out
    obtain ⟨x0, x1, x2, x3, x4, x5, x6, x7, x8, x9⟩ := HeldN.facts HX1.out
    clear x0 x1 x2 x3 x4 x5 x6 x7 x9
    go_wp2_with fail
    refine (bld_String b (s ++ op) [59] _ HT.out.st (by have := Hrm.out; (try simp only [List.length_append, List.length_cons, List.length_nil] at this ⊢); omega)).mono ?_
    rintro e1 w2 ⟨rfl, hT⟩
    have HT2 := Lib.hid (HT.out.trans hT)
    clear hT q0 q1 x8
    go_wp2_with fail
    go_end0
    exact ⟨rfl, by have := HT2.out; simpa using this⟩
set_option maxRecDepth 20000 in
set_option maxHeartbeats 2000000 in
theorem w_asked (m : Nat) (H : StmtOk m) (l : List N) (h2 : 1 < l.length) (hR : ∀ n ∈ l, ∃ o, rightN o n = true) (hm : ∀ n ∈ l, SizeOf.sizeOf n ≤ m) (hK : exprK (l[0]'(by omega)).kind = true) (hK1 : (l[1]'h2).kind = 4) (K : Option Addr) (e : Nat) (gw gn : Nat) (c0 c1 c2 c3 c4 c5 c6 c7 c9 : Value) (W : World) (b : Nat) (s : List UInt8) (i : Nat) (op : List UInt8)
    (hW : HeldW gw b (i : Int) W) (hN : HeldN gn c0 c1 c2 c3 c4 c5 c6 c7 (.slice K l.length e) c9 W) (hgw : b < gw) (hgn : b < gn) (hl : RdNs (fun k => k < b) W (.slice K l.length e) 0 l) (hlen : l.length ≤ 16777216) (hB : BldSt b s W) (hP : PowAt b W) (hroom : s.length + (op.length + 2 + (kidT 0 l).length + 2 + (blkT i 1 l).length) ≤ 70368744177664) :
    Calls Tryd.prog 66 #[.string ⟨op.toArray⟩, .pointer (some ⟨gw, 0, none⟩), .pointer (some ⟨gn, 0, none⟩)] W fun e W' => e = .returned (.tuple #[]) ∧ BldTo b (s ++ op ++ [32, 40] ++ kidT 0 l ++ [41, 32] ++ blkT i 1 l) W W' := by
  have h0 : 0 < l.length := by omega
  rw [kidT_at h0, blkT_at h2] at hroom ⊢
  have hm0 : l[0]'h0 ∈ l := List.getElem_mem h0
  have hm1 : l[1]'h2 ∈ l := List.getElem_mem h2
  have HB := Lib.hid hB
  have HPw := Lib.hid hP
  have HW := Lib.hid hW
  have HX := Lib.hid hN
  have Hgw := Lib.hid hgw
  have Hgn := Lib.hid hgn
  obtain ⟨q0, q1⟩ := HeldW.facts hW
  have HC := Lib.hid (fun (v : Value) (W1 : World) (s1 : List UInt8) (hv1 : RdN (fun k => k < b) W1 v (l[0]'h0)) (hb : Below b W W1) (hB1 : BldSt b s1 W1) (hr1 : s1.length + (exprT (l[0]'h0)).length ≤ 70368744177664) => w_expr (SizeOf.sizeOf (l[0]'h0) + 1) (l[0]'h0) (Nat.lt_succ_self _) v W1 b s1 (i : Int) hv1 (hR _ hm0) (.inl hK) hB1 (hP.lo hb) hr1)
  have HD := Lib.hid (fun (v : Value) (W1 : World) (s1 : List UInt8) (hv1 : RdN (fun k => k < b) W1 v (l[1]'h2)) (hb : Below b W W1) (hB1 : BldSt b s1 W1) (hr1 : s1.length + (blockT i (l[1]'h2)).length ≤ 70368744177664) => w_block (l[1]'h2) (fun y hy => H y (Nat.lt_of_lt_of_le hy (hm _ hm1))) v W1 b s1 i hv1 (hR _ hm1) hK1 hB1 (hP.lo hb) hr1)
  have HE0 := Lib.hid (fun (W1 : World) (hb : Below b W W1) => (hl.lo hb).elem 0 h0)
  have HE1 := Lib.hid (fun (W1 : World) (hb : Below b W W1) => (hl.lo hb).elem 1 h2)
  have hlA : (0 : Int) < (l.length : Int) := by omega
  have hlB : (1 : Int) < (l.length : Int) := by omega
  have hcat : ¬ 9223372036854775807 < op.length + 2 := by omega
  have Hrm := Lib.hid hroom
  have Hlx := Lib.hid h2
  generalize l[0]'h0 = Y at *
  generalize l[1]'h2 = Z at *
  clear hR hm hK hK1 hW hN hgw hgn hl hB hP hroom hm0 hm1 H
  go_enter Tryd.func66, Tryd.ntmps66
  go_wp2_with fail
  rw [show (⟨op.toArray⟩ ++ ⟨#[32, 40]⟩ : ByteArray) = ⟨(op ++ [32, 40]).toArray⟩ from ba_app op [32, 40]]
  refine (bld_String b s (op ++ [32, 40]) _ HB.out (by have := Hrm.out; (try simp only [List.length_append, List.length_cons, List.length_nil] at this ⊢); omega)).mono ?_
  rintro e1 w1 ⟨rfl, hT⟩
  have HT := Lib.hid hT
  have HW1 := Lib.hid (HeldW.to HW.out Hgw.out hT)
  have HX1 := Lib.hid (HeldN.to HX.out Hgn.out hT)
  clear hT q0 q1
  obtain ⟨q0, q1⟩ := HeldW.facts HW1.out
  obtain ⟨x0, x1, x2, x3, x4, x5, x6, x7, x8, x9⟩ := HeldN.facts HX1.out
  clear x0 x1 x2 x3 x4 x5 x6 x7 x9
  obtain ⟨g, off, A2, c2', B2, d2, K2, e2, rfl, _, hk', k0, k1, k2, k3, k4, k5, k6, k7, k8, k9⟩ := HE0.out _ HT.out.bel
  simp only [Nat.zero_mul, Nat.add_zero] at k0 k1 k2 k3 k4 k5 k6 k7 k8 k9
  have HY := Lib.hid hk'.rd
  clear hk'
  go_upto_region 1 with fail
  go_region_with (first
    | (go_at_call 21; refine (HC.out _ _ (s ++ (op ++ [32, 40])) (HY.out.below (drew_b _)) (HT.out.bel.drew) (HT.out.st.below (drew_b _)) (by have := Hrm.out; (try simp only [List.length_append, List.length_cons, List.length_nil] at this ⊢); omega)).mono ?_; rintro e3 w3 ⟨rfl, hT⟩; have hT' := BldTo.trans (BldTo.of HT.out.st (drew_b _)) hT; have HT2 := Lib.hid (HT.out.trans hT'); have HW2 := Lib.hid (HeldW.to HW1.out Hgw.out hT'); have HX2 := Lib.hid (HeldN.to HX1.out Hgn.out hT'); clear hT hT')
    | fail)
  all_goals clear q0 q1 x8 k0 k1 k2 k3 k4 k5 k6 k7 k8 k9
  all_goals obtain ⟨q0, q1⟩ := HeldW.facts HW2.out
  all_goals go_wp2_with fail
  all_goals refine (bld_String b (s ++ (op ++ [32, 40]) ++ exprT Y) [41, 32] _ HT2.out.st (by have := Hrm.out; (try simp only [List.length_append, List.length_cons, List.length_nil] at this ⊢); omega)).mono ?_
  all_goals rintro e4 w4 ⟨rfl, hT⟩
  all_goals have HT3 := Lib.hid (HT2.out.trans hT)
  all_goals have HW3 := Lib.hid (HeldW.to HW2.out Hgw.out hT)
  all_goals have HX3 := Lib.hid (HeldN.to HX2.out Hgn.out hT)
  all_goals clear hT q0 q1
  all_goals obtain ⟨q0, q1⟩ := HeldW.facts HW3.out
  all_goals obtain ⟨x0, x1, x2, x3, x4, x5, x6, x7, x8, x9⟩ := HeldN.facts HX3.out
  all_goals clear x0 x1 x2 x3 x4 x5 x6 x7 x9
  all_goals obtain ⟨g', off', A3, c3', B3, d3, K3, e3', hg, _, hk', k0, k1, k2, k3, k4, k5, k6, k7, k8, k9⟩ := HE1.out _ HT3.out.bel
  all_goals injection hg with hg
  all_goals injection hg with hg1 hg2
  all_goals subst hg1 hg2
  all_goals simp only [Nat.one_mul] at k0 k1 k2 k3 k4 k5 k6 k7 k8 k9
  all_goals have HZ := Lib.hid hk'.rd
  all_goals clear hk'
  all_goals go_upto_region 3 with fail
  all_goals go_region_with (first
    | (go_at_call 26; refine (HD.out _ _ (s ++ (op ++ [32, 40]) ++ exprT Y ++ [41, 32]) (HZ.out.below (drew_b _)) (HT3.out.bel.drew) (HT3.out.st.below (drew_b _)) (by have := Hrm.out; (try simp only [List.length_append, List.length_cons, List.length_nil] at this ⊢); omega)).mono ?_; rintro e5 w5 ⟨rfl, hT⟩; have HT4 := Lib.hid (HT3.out.trans (BldTo.trans (BldTo.of HT3.out.st (drew_b _)) hT)); clear hT)
    | fail)
  all_goals go_wp2_with fail
  all_goals go_end0
  all_goals exact ⟨rfl, by have := HT4.out; simpa using this⟩

set_option maxRecDepth 20000 in
set_option maxHeartbeats 2000000 in
theorem w_stmt_5 (t : List UInt8) (x : V) (f : Bool) (l : List N) (a : Int) (H : StmtOk (SizeOf.sizeOf (N.mk 5 t x f l a))) (A B K : Option Addr) (c d e : Nat) (W : World) (b : Nat) (s : List UInt8) (i : Nat) (hv : RdN (fun k => k < b) W (.agg #[.int .i64 5, .string ⟨t.toArray⟩, .int .i64 x.kind, .int .i64 x.num, .string ⟨x.str.toArray⟩, .slice A x.parts.length c, .slice B x.keys.length d, .bool f, .slice K l.length e, .int .i64 a]) (N.mk 5 t x f l a)) (hr : ∃ o, rightN o (N.mk 5 t x f l a) = true) (hB : BldSt b s W) (hP : PowAt b W) (hroom : s.length + (stmtT i (N.mk 5 t x f l a)).length ≤ 70368744177664) :
    Calls Tryd.prog 45 #[.agg #[.pointer (some ⟨b, 0, none⟩), .int .i64 (i : Int)], .agg #[.int .i64 5, .string ⟨t.toArray⟩, .int .i64 x.kind, .int .i64 x.num, .string ⟨x.str.toArray⟩, .slice A x.parts.length c, .slice B x.keys.length d, .bool f, .slice K l.length e, .int .i64 a]] W fun e W' => e = .returned (.tuple #[]) ∧ BldTo b (s ++ stmtT i (N.mk 5 t x f l a)) W W' := by
  have hx : stmtT i (N.mk 5 t x f l a) = [108, 101, 116, 32] ++ t ++ behT [32, 61, 32] l ++ [59] := by rw [stmtT]; rfl
  obtain ⟨o, hr⟩ := hr
  obtain ⟨hsd, hsh⟩ := right_said hr
  have hkr := right_kids hr
  obtain ⟨A', c', B', d', K', e', hve, hn⟩ := hv.form
  have htl : t.length ≤ 16777216 := hn.text
  have hlen : l.length ≤ 16777216 := hn.len
  have hsz := fun (y : N) (hy : y ∈ l) => sz_mem (n := (N.mk 5 t x f l a)) hy
  clear hve hn
  simp only [N.kind, N.kids, N.text] at hsh hkr
  rw [hx] at hroom
  have HTx := Lib.hid hx
  have Hrm := Lib.hid hroom
  have HB := Lib.hid hB
  have HPw := Lib.hid hP
  have HV := Lib.hid hv
  have HT0 := Lib.hid (BldTo.of hB (two_al W (.cells #[.pointer (some ⟨b, 0, none⟩), .int .i64 (i : Int)] 45) (.cells #[.int .i64 5, .string ⟨t.toArray⟩, .int .i64 x.kind, .int .i64 x.num, .string ⟨x.str.toArray⟩, .slice A x.parts.length c, .slice B x.keys.length d, .bool f, .slice K l.length e, .int .i64 a] 28)))
  have HW0 := Lib.hid (show HeldW W.heap.size b i ((W.alloc (.cells #[.pointer (some ⟨b, 0, none⟩), .int .i64 (i : Int)] 45)).alloc (.cells #[.int .i64 5, .string ⟨t.toArray⟩, .int .i64 x.kind, .int .i64 x.num, .string ⟨x.str.toArray⟩, .slice A x.parts.length c, .slice B x.keys.length d, .bool f, .slice K l.length e, .int .i64 a] 28)) from Held.below (Held.at rfl) (one_al _ _))
  have HX0 := Lib.hid (show HeldN (W.heap.size + 1) _ _ _ _ _ _ _ _ _ _ ((W.alloc (.cells #[.pointer (some ⟨b, 0, none⟩), .int .i64 (i : Int)] 45)).alloc (.cells #[.int .i64 5, .string ⟨t.toArray⟩, .int .i64 x.kind, .int .i64 x.num, .string ⟨x.str.toArray⟩, .slice A x.parts.length c, .slice B x.keys.length d, .bool f, .slice K l.length e, .int .i64 a] 28)) from Held.at (by simp))
  have Hbw := Lib.hid hB.lt
  have Hbn := Lib.hid (Nat.lt_succ_of_lt hB.lt)
  have hkids : RdNs (fun k => k < b) W (.slice K l.length e) 0 l := kids_of hv
  have HKd := Lib.hid hkids
  have HE := Lib.hid (fun (op sg : List UInt8) (W1 : World) (s1 : List UInt8) (hb : Below b W W1) (hW1 : HeldW W.heap.size b i W1) (hX1 : HeldN (W.heap.size + 1) (.int .i64 5) (.string ⟨t.toArray⟩) (.int .i64 x.kind) (.int .i64 x.num) (.string ⟨x.str.toArray⟩) (.slice A x.parts.length c) (.slice B x.keys.length d) (.bool f) (.slice K l.length e) (.int .i64 a) W1) (hB1 : BldSt b s1 W1) (hr1 : s1.length + (op.length + (behT sg l).length + 1) ≤ 70368744177664) =>
    w_line l hkr (all_kinds (l := l) (by simp only [shapeK] at hsh; simp at hsh; simpa using hsh.2)) K e W.heap.size (W.heap.size + 1) _ _ _ _ _ _ _ _ _ W1 b s1 i op sg hW1 hX1 hB.lt (Nat.lt_succ_of_lt hB.lt) (hkids.lo hb) hlen hB1 (hP.lo hb) hr1)
  have hcat : ¬ 9223372036854775807 < 4 + t.length := by omega
  clear hv hB hP hr hx hroom hkids hsd hsh hkr hsz H
  go_enter Tryd.func45, Tryd.ntmps45
  obtain ⟨q0, q1⟩ := HeldW.facts HW0.out
  obtain ⟨x0, x1, x2, x3, x4, x5, x6, x7, x8, x9⟩ := HeldN.facts HX0.out
  go_wp2_with fail
  rw [show (⟨#[108, 101, 116, 32]⟩ ++ ⟨t.toArray⟩ : ByteArray) = ⟨([108, 101, 116, 32] ++ t).toArray⟩ from ba_app [108, 101, 116, 32] t]
  refine (HE.out ([108, 101, 116, 32] ++ t) [32, 61, 32] _ s HT0.out.bel HW0.out HX0.out HT0.out.st (by have := Hrm.out; (try simp only [List.length_append, List.length_cons, List.length_nil] at this ⊢); omega)).mono ?_
  rintro e1 w1 ⟨rfl, hT⟩
  have HT1 := Lib.hid (HT0.out.trans hT)
  clear hT q0 q1 x0 x1 x2 x3 x4 x5 x6 x7 x8 x9
  go_wp2_with fail
  go_end0
  exact ⟨rfl, by rw [HTx.out]; have := HT1.out; simpa using this⟩
set_option maxRecDepth 20000 in
set_option maxHeartbeats 2000000 in
theorem w_stmt_6 (t : List UInt8) (x : V) (f : Bool) (l : List N) (a : Int) (H : StmtOk (SizeOf.sizeOf (N.mk 6 t x f l a))) (A B K : Option Addr) (c d e : Nat) (W : World) (b : Nat) (s : List UInt8) (i : Nat) (hv : RdN (fun k => k < b) W (.agg #[.int .i64 6, .string ⟨t.toArray⟩, .int .i64 x.kind, .int .i64 x.num, .string ⟨x.str.toArray⟩, .slice A x.parts.length c, .slice B x.keys.length d, .bool f, .slice K l.length e, .int .i64 a]) (N.mk 6 t x f l a)) (hr : ∃ o, rightN o (N.mk 6 t x f l a) = true) (hB : BldSt b s W) (hP : PowAt b W) (hroom : s.length + (stmtT i (N.mk 6 t x f l a)).length ≤ 70368744177664) :
    Calls Tryd.prog 45 #[.agg #[.pointer (some ⟨b, 0, none⟩), .int .i64 (i : Int)], .agg #[.int .i64 6, .string ⟨t.toArray⟩, .int .i64 x.kind, .int .i64 x.num, .string ⟨x.str.toArray⟩, .slice A x.parts.length c, .slice B x.keys.length d, .bool f, .slice K l.length e, .int .i64 a]] W fun e W' => e = .returned (.tuple #[]) ∧ BldTo b (s ++ stmtT i (N.mk 6 t x f l a)) W W' := by
  have hx : stmtT i (N.mk 6 t x f l a) = t ++ behT [32, 61, 32] l ++ [59] := by rw [stmtT]; rfl
  obtain ⟨o, hr⟩ := hr
  obtain ⟨hsd, hsh⟩ := right_said hr
  have hkr := right_kids hr
  obtain ⟨A', c', B', d', K', e', hve, hn⟩ := hv.form
  have htl : t.length ≤ 16777216 := hn.text
  have hlen : l.length ≤ 16777216 := hn.len
  have hsz := fun (y : N) (hy : y ∈ l) => sz_mem (n := (N.mk 6 t x f l a)) hy
  clear hve hn
  simp only [N.kind, N.kids, N.text] at hsh hkr
  rw [hx] at hroom
  have HTx := Lib.hid hx
  have Hrm := Lib.hid hroom
  have HB := Lib.hid hB
  have HPw := Lib.hid hP
  have HV := Lib.hid hv
  have HT0 := Lib.hid (BldTo.of hB (two_al W (.cells #[.pointer (some ⟨b, 0, none⟩), .int .i64 (i : Int)] 45) (.cells #[.int .i64 6, .string ⟨t.toArray⟩, .int .i64 x.kind, .int .i64 x.num, .string ⟨x.str.toArray⟩, .slice A x.parts.length c, .slice B x.keys.length d, .bool f, .slice K l.length e, .int .i64 a] 28)))
  have HW0 := Lib.hid (show HeldW W.heap.size b i ((W.alloc (.cells #[.pointer (some ⟨b, 0, none⟩), .int .i64 (i : Int)] 45)).alloc (.cells #[.int .i64 6, .string ⟨t.toArray⟩, .int .i64 x.kind, .int .i64 x.num, .string ⟨x.str.toArray⟩, .slice A x.parts.length c, .slice B x.keys.length d, .bool f, .slice K l.length e, .int .i64 a] 28)) from Held.below (Held.at rfl) (one_al _ _))
  have HX0 := Lib.hid (show HeldN (W.heap.size + 1) _ _ _ _ _ _ _ _ _ _ ((W.alloc (.cells #[.pointer (some ⟨b, 0, none⟩), .int .i64 (i : Int)] 45)).alloc (.cells #[.int .i64 6, .string ⟨t.toArray⟩, .int .i64 x.kind, .int .i64 x.num, .string ⟨x.str.toArray⟩, .slice A x.parts.length c, .slice B x.keys.length d, .bool f, .slice K l.length e, .int .i64 a] 28)) from Held.at (by simp))
  have Hbw := Lib.hid hB.lt
  have Hbn := Lib.hid (Nat.lt_succ_of_lt hB.lt)
  have hkids : RdNs (fun k => k < b) W (.slice K l.length e) 0 l := kids_of hv
  have HKd := Lib.hid hkids
  have HE := Lib.hid (fun (op sg : List UInt8) (W1 : World) (s1 : List UInt8) (hb : Below b W W1) (hW1 : HeldW W.heap.size b i W1) (hX1 : HeldN (W.heap.size + 1) (.int .i64 6) (.string ⟨t.toArray⟩) (.int .i64 x.kind) (.int .i64 x.num) (.string ⟨x.str.toArray⟩) (.slice A x.parts.length c) (.slice B x.keys.length d) (.bool f) (.slice K l.length e) (.int .i64 a) W1) (hB1 : BldSt b s1 W1) (hr1 : s1.length + (op.length + (behT sg l).length + 1) ≤ 70368744177664) =>
    w_line l hkr (all_kinds (l := l) (by simp only [shapeK] at hsh; simp at hsh; simpa using hsh.2)) K e W.heap.size (W.heap.size + 1) _ _ _ _ _ _ _ _ _ W1 b s1 i op sg hW1 hX1 hB.lt (Nat.lt_succ_of_lt hB.lt) (hkids.lo hb) hlen hB1 (hP.lo hb) hr1)
  clear hv hB hP hr hx hroom hkids hsd hsh hkr hsz H
  go_enter Tryd.func45, Tryd.ntmps45
  obtain ⟨q0, q1⟩ := HeldW.facts HW0.out
  obtain ⟨x0, x1, x2, x3, x4, x5, x6, x7, x8, x9⟩ := HeldN.facts HX0.out
  go_wp2_with fail
  refine (HE.out t [32, 61, 32] _ s HT0.out.bel HW0.out HX0.out HT0.out.st (by have := Hrm.out; (try simp only [List.length_append, List.length_cons, List.length_nil] at this ⊢); omega)).mono ?_
  rintro e1 w1 ⟨rfl, hT⟩
  have HT1 := Lib.hid (HT0.out.trans hT)
  clear hT q0 q1 x0 x1 x2 x3 x4 x5 x6 x7 x8 x9
  go_wp2_with fail
  go_end0
  exact ⟨rfl, by rw [HTx.out]; have := HT1.out; simpa using this⟩
set_option maxRecDepth 20000 in
set_option maxHeartbeats 2000000 in
theorem w_stmt_7_2 (t : List UInt8) (x : V) (f : Bool) (l : List N) (a : Int) (hL : l.length = 2) (H : StmtOk (SizeOf.sizeOf (N.mk 7 t x f l a))) (A B K : Option Addr) (c d e : Nat) (W : World) (b : Nat) (s : List UInt8) (i : Nat) (hv : RdN (fun k => k < b) W (.agg #[.int .i64 7, .string ⟨t.toArray⟩, .int .i64 x.kind, .int .i64 x.num, .string ⟨x.str.toArray⟩, .slice A x.parts.length c, .slice B x.keys.length d, .bool f, .slice K l.length e, .int .i64 a]) (N.mk 7 t x f l a)) (hr : ∃ o, rightN o (N.mk 7 t x f l a) = true) (hB : BldSt b s W) (hP : PowAt b W) (hroom : s.length + (stmtT i (N.mk 7 t x f l a)).length ≤ 70368744177664) :
    Calls Tryd.prog 45 #[.agg #[.pointer (some ⟨b, 0, none⟩), .int .i64 (i : Int)], .agg #[.int .i64 7, .string ⟨t.toArray⟩, .int .i64 x.kind, .int .i64 x.num, .string ⟨x.str.toArray⟩, .slice A x.parts.length c, .slice B x.keys.length d, .bool f, .slice K l.length e, .int .i64 a]] W fun e W' => e = .returned (.tuple #[]) ∧ BldTo b (s ++ stmtT i (N.mk 7 t x f l a)) W W' := by
  have hx : stmtT i (N.mk 7 t x f l a) = [105, 102] ++ [32, 40] ++ kidT 0 l ++ [41, 32] ++ blkT i 1 l ++ elseT i 2 l := by rw [stmtT]; rfl
  obtain ⟨o, hr⟩ := hr
  obtain ⟨hsd, hsh⟩ := right_said hr
  have hkr := right_kids hr
  obtain ⟨A', c', B', d', K', e', hve, hn⟩ := hv.form
  have htl : t.length ≤ 16777216 := hn.text
  have hlen : l.length ≤ 16777216 := hn.len
  have hsz := fun (y : N) (hy : y ∈ l) => sz_mem (n := (N.mk 7 t x f l a)) hy
  clear hve hn
  simp only [N.kind, N.kids, N.text] at hsh hkr
  rw [hx] at hroom
  have HTx := Lib.hid hx
  have Hrm := Lib.hid hroom
  have HB := Lib.hid hB
  have HPw := Lib.hid hP
  have HV := Lib.hid hv
  have HT0 := Lib.hid (BldTo.of hB (two_al W (.cells #[.pointer (some ⟨b, 0, none⟩), .int .i64 (i : Int)] 45) (.cells #[.int .i64 7, .string ⟨t.toArray⟩, .int .i64 x.kind, .int .i64 x.num, .string ⟨x.str.toArray⟩, .slice A x.parts.length c, .slice B x.keys.length d, .bool f, .slice K l.length e, .int .i64 a] 28)))
  have HW0 := Lib.hid (show HeldW W.heap.size b i ((W.alloc (.cells #[.pointer (some ⟨b, 0, none⟩), .int .i64 (i : Int)] 45)).alloc (.cells #[.int .i64 7, .string ⟨t.toArray⟩, .int .i64 x.kind, .int .i64 x.num, .string ⟨x.str.toArray⟩, .slice A x.parts.length c, .slice B x.keys.length d, .bool f, .slice K l.length e, .int .i64 a] 28)) from Held.below (Held.at rfl) (one_al _ _))
  have HX0 := Lib.hid (show HeldN (W.heap.size + 1) _ _ _ _ _ _ _ _ _ _ ((W.alloc (.cells #[.pointer (some ⟨b, 0, none⟩), .int .i64 (i : Int)] 45)).alloc (.cells #[.int .i64 7, .string ⟨t.toArray⟩, .int .i64 x.kind, .int .i64 x.num, .string ⟨x.str.toArray⟩, .slice A x.parts.length c, .slice B x.keys.length d, .bool f, .slice K l.length e, .int .i64 a] 28)) from Held.at (by simp))
  have Hbw := Lib.hid hB.lt
  have Hbn := Lib.hid (Nat.lt_succ_of_lt hB.lt)
  have hkids : RdNs (fun k => k < b) W (.slice K l.length e) 0 l := kids_of hv
  have HKd := Lib.hid hkids
  have h2 : 1 < l.length := by omega
  have hk01 : exprK (l[0]'(by omega)).kind = true ∧ (l[1]'h2).kind = 4 := by
    simp only [shapeK] at hsh
    have h := hsh
    simp only [Bool.and_eq_true, beq_iff_eq, Bool.false_eq_true, reduceIte, Int.reduceEq, or_self, or_false, false_or] at h
    rw [List.getD_eq_getElem?_getD, List.getD_eq_getElem?_getD, List.getElem?_map, List.getElem?_map, List.getElem?_eq_getElem (by omega : 0 < l.length), List.getElem?_eq_getElem h2] at h
    simp at h
    exact ⟨h.2.1, h.2.2.1⟩
  have HE := Lib.hid (fun (op : List UInt8) (W1 : World) (s1 : List UInt8) (hb : Below b W W1) (hW1 : HeldW W.heap.size b i W1) (hX1 : HeldN (W.heap.size + 1) (.int .i64 7) (.string ⟨t.toArray⟩) (.int .i64 x.kind) (.int .i64 x.num) (.string ⟨x.str.toArray⟩) (.slice A x.parts.length c) (.slice B x.keys.length d) (.bool f) (.slice K l.length e) (.int .i64 a) W1) (hB1 : BldSt b s1 W1) (hr1 : s1.length + (op.length + 2 + (kidT 0 l).length + 2 + (blkT i 1 l).length) ≤ 70368744177664) =>
    w_asked _ H l h2 hkr (fun y hy => Nat.le_of_lt (hsz y hy)) hk01.1 hk01.2 K e W.heap.size (W.heap.size + 1) _ _ _ _ _ _ _ _ _ W1 b s1 i op hW1 hX1 hB.lt (Nat.lt_succ_of_lt hB.lt) (hkids.lo hb) hlen hB1 (hP.lo hb) hr1)
  have hel : elseT i 2 l = [] := by
    match l, hL with
    | [y, z], _ => rfl
  have HEl := Lib.hid hel
  have hlt3 : (l.length : Int) < 3 := by omega
  clear hv hB hP hr hx hroom hkids hsd hsh hkr hsz H hk01 h2 hel hL
  go_enter Tryd.func45, Tryd.ntmps45
  obtain ⟨q0, q1⟩ := HeldW.facts HW0.out
  obtain ⟨x0, x1, x2, x3, x4, x5, x6, x7, x8, x9⟩ := HeldN.facts HX0.out
  go_wp2_with fail
  refine (HE.out [105, 102] _ s HT0.out.bel HW0.out HX0.out HT0.out.st (by have := Hrm.out; rw [HEl.out] at this; simp only [List.length_append, List.length_cons, List.length_nil] at this ⊢; omega)).mono ?_
  rintro e1 w1 ⟨rfl, hT⟩
  have HT1 := Lib.hid (HT0.out.trans hT)
  have HX1 := Lib.hid (HeldN.to HX0.out Hbn.out hT)
  clear hT q0 q1 x0 x1 x2 x3 x4 x5 x6 x7 x8 x9
  obtain ⟨x0, x1, x2, x3, x4, x5, x6, x7, x8, x9⟩ := HeldN.facts HX1.out
  go_wp2_with fail
  all_goals refine bodyPost_ret (results_none rfl _ _ _) rfl ?_
  all_goals exact ⟨rfl, by rw [HTx.out, HEl.out]; have := HT1.out; simpa using this⟩
set_option maxRecDepth 20000 in
set_option maxHeartbeats 2000000 in
theorem w_stmt_7_3 (t : List UInt8) (x : V) (f : Bool) (l : List N) (a : Int) (hL : l.length = 3) (H : StmtOk (SizeOf.sizeOf (N.mk 7 t x f l a))) (A B K : Option Addr) (c d e : Nat) (W : World) (b : Nat) (s : List UInt8) (i : Nat) (hv : RdN (fun k => k < b) W (.agg #[.int .i64 7, .string ⟨t.toArray⟩, .int .i64 x.kind, .int .i64 x.num, .string ⟨x.str.toArray⟩, .slice A x.parts.length c, .slice B x.keys.length d, .bool f, .slice K l.length e, .int .i64 a]) (N.mk 7 t x f l a)) (hr : ∃ o, rightN o (N.mk 7 t x f l a) = true) (hB : BldSt b s W) (hP : PowAt b W) (hroom : s.length + (stmtT i (N.mk 7 t x f l a)).length ≤ 70368744177664) :
    Calls Tryd.prog 45 #[.agg #[.pointer (some ⟨b, 0, none⟩), .int .i64 (i : Int)], .agg #[.int .i64 7, .string ⟨t.toArray⟩, .int .i64 x.kind, .int .i64 x.num, .string ⟨x.str.toArray⟩, .slice A x.parts.length c, .slice B x.keys.length d, .bool f, .slice K l.length e, .int .i64 a]] W fun e W' => e = .returned (.tuple #[]) ∧ BldTo b (s ++ stmtT i (N.mk 7 t x f l a)) W W' := by
  have hx : stmtT i (N.mk 7 t x f l a) = [105, 102] ++ [32, 40] ++ kidT 0 l ++ [41, 32] ++ blkT i 1 l ++ elseT i 2 l := by rw [stmtT]; rfl
  obtain ⟨o, hr⟩ := hr
  obtain ⟨hsd, hsh⟩ := right_said hr
  have hkr := right_kids hr
  obtain ⟨A', c', B', d', K', e', hve, hn⟩ := hv.form
  have htl : t.length ≤ 16777216 := hn.text
  have hlen : l.length ≤ 16777216 := hn.len
  have hsz := fun (y : N) (hy : y ∈ l) => sz_mem (n := (N.mk 7 t x f l a)) hy
  clear hve hn
  simp only [N.kind, N.kids, N.text] at hsh hkr
  rw [hx] at hroom
  have HTx := Lib.hid hx
  have Hrm := Lib.hid hroom
  have HB := Lib.hid hB
  have HPw := Lib.hid hP
  have HV := Lib.hid hv
  have HT0 := Lib.hid (BldTo.of hB (two_al W (.cells #[.pointer (some ⟨b, 0, none⟩), .int .i64 (i : Int)] 45) (.cells #[.int .i64 7, .string ⟨t.toArray⟩, .int .i64 x.kind, .int .i64 x.num, .string ⟨x.str.toArray⟩, .slice A x.parts.length c, .slice B x.keys.length d, .bool f, .slice K l.length e, .int .i64 a] 28)))
  have HW0 := Lib.hid (show HeldW W.heap.size b i ((W.alloc (.cells #[.pointer (some ⟨b, 0, none⟩), .int .i64 (i : Int)] 45)).alloc (.cells #[.int .i64 7, .string ⟨t.toArray⟩, .int .i64 x.kind, .int .i64 x.num, .string ⟨x.str.toArray⟩, .slice A x.parts.length c, .slice B x.keys.length d, .bool f, .slice K l.length e, .int .i64 a] 28)) from Held.below (Held.at rfl) (one_al _ _))
  have HX0 := Lib.hid (show HeldN (W.heap.size + 1) _ _ _ _ _ _ _ _ _ _ ((W.alloc (.cells #[.pointer (some ⟨b, 0, none⟩), .int .i64 (i : Int)] 45)).alloc (.cells #[.int .i64 7, .string ⟨t.toArray⟩, .int .i64 x.kind, .int .i64 x.num, .string ⟨x.str.toArray⟩, .slice A x.parts.length c, .slice B x.keys.length d, .bool f, .slice K l.length e, .int .i64 a] 28)) from Held.at (by simp))
  have Hbw := Lib.hid hB.lt
  have Hbn := Lib.hid (Nat.lt_succ_of_lt hB.lt)
  have hkids : RdNs (fun k => k < b) W (.slice K l.length e) 0 l := kids_of hv
  have HKd := Lib.hid hkids
  have h2 : 1 < l.length := by omega
  have hk01 : exprK (l[0]'(by omega)).kind = true ∧ (l[1]'h2).kind = 4 := by
    simp only [shapeK] at hsh
    have h := hsh
    simp only [Bool.and_eq_true, beq_iff_eq, Bool.false_eq_true, reduceIte, Int.reduceEq, or_self, or_false, false_or] at h
    rw [List.getD_eq_getElem?_getD, List.getD_eq_getElem?_getD, List.getElem?_map, List.getElem?_map, List.getElem?_eq_getElem (by omega : 0 < l.length), List.getElem?_eq_getElem h2] at h
    simp at h
    exact ⟨h.2.1, h.2.2.1⟩
  have HE := Lib.hid (fun (op : List UInt8) (W1 : World) (s1 : List UInt8) (hb : Below b W W1) (hW1 : HeldW W.heap.size b i W1) (hX1 : HeldN (W.heap.size + 1) (.int .i64 7) (.string ⟨t.toArray⟩) (.int .i64 x.kind) (.int .i64 x.num) (.string ⟨x.str.toArray⟩) (.slice A x.parts.length c) (.slice B x.keys.length d) (.bool f) (.slice K l.length e) (.int .i64 a) W1) (hB1 : BldSt b s1 W1) (hr1 : s1.length + (op.length + 2 + (kidT 0 l).length + 2 + (blkT i 1 l).length) ≤ 70368744177664) =>
    w_asked _ H l h2 hkr (fun y hy => Nat.le_of_lt (hsz y hy)) hk01.1 hk01.2 K e W.heap.size (W.heap.size + 1) _ _ _ _ _ _ _ _ _ W1 b s1 i op hW1 hX1 hB.lt (Nat.lt_succ_of_lt hB.lt) (hkids.lo hb) hlen hB1 (hP.lo hb) hr1)
  have hl3 : 2 < l.length := by omega
  have hk2 := if_third hL hsh hl3
  have hel := elseT_at (w := i) hl3
  have hm2 : l[2]'hl3 ∈ l := List.getElem_mem hl3
  have HS := Lib.hid (fun (v : Value) (W1 : World) (s1 : List UInt8) (hk7 : (l[2]'hl3).kind = 7) (hv1 : RdN (fun k => k < b) W1 v (l[2]'hl3)) (hb : Below b W W1) (hB1 : BldSt b s1 W1) (hr1 : s1.length + (stmtT i (l[2]'hl3)).length ≤ 70368744177664) => H (l[2]'hl3) (hsz _ hm2) v W1 b s1 i hv1 (hkr _ hm2) (by rw [hk7]; rfl) hB1 (hP.lo hb) hr1)
  have HD := Lib.hid (fun (v : Value) (W1 : World) (s1 : List UInt8) (hk4 : (l[2]'hl3).kind = 4) (hv1 : RdN (fun k => k < b) W1 v (l[2]'hl3)) (hb : Below b W W1) (hB1 : BldSt b s1 W1) (hr1 : s1.length + (blockT i (l[2]'hl3)).length ≤ 70368744177664) => w_block (l[2]'hl3) (fun y hy => H y (Nat.lt_trans hy (hsz _ hm2))) v W1 b s1 i hv1 (hkr _ hm2) hk4 hB1 (hP.lo hb) hr1)
  have HE2 := Lib.hid (fun (W1 : World) (hb : Below b W W1) => (hkids.lo hb).elem 2 hl3)
  have hlt3 : ¬ (l.length : Int) < 3 := by omega
  have hlC : (2 : Int) < (l.length : Int) := by omega
  generalize l[2]'hl3 = Z at *
  clear hm2
  rcases hk2 with hk4 | hk7
  · have hz : (Z.kind == 7) = false := by rw [hk4]; rfl
    have HEl := Lib.hid (show elseT i 2 l = [32, 101, 108, 115, 101, 32] ++ blockT i Z by rw [hel, if_neg (by rw [hk4]; decide)])
    clear hv hB hP hr hx hroom hkids hsd hsh hkr hsz H hk01 h2 hel hL hl3
    go_enter Tryd.func45, Tryd.ntmps45
    obtain ⟨q0, q1⟩ := HeldW.facts HW0.out
    obtain ⟨x0, x1, x2, x3, x4, x5, x6, x7, x8, x9⟩ := HeldN.facts HX0.out
    have Hkk := Lib.hid hk4
    clear hk4
    go_wp2_with fail
    refine (HE.out [105, 102] _ s HT0.out.bel HW0.out HX0.out HT0.out.st (by have := Hrm.out; rw [HEl.out] at this; simp only [List.length_append, List.length_cons, List.length_nil] at this ⊢; omega)).mono ?_
    rintro e1 w1 ⟨rfl, hT⟩
    have HT1 := Lib.hid (HT0.out.trans hT)
    have HW1 := Lib.hid (HeldW.to HW0.out Hbw.out hT)
    have HX1 := Lib.hid (HeldN.to HX0.out Hbn.out hT)
    clear hT q0 q1 x0 x1 x2 x3 x4 x5 x6 x7 x8 x9
    obtain ⟨q0, q1⟩ := HeldW.facts HW1.out
    obtain ⟨x0, x1, x2, x3, x4, x5, x6, x7, x8, x9⟩ := HeldN.facts HX1.out
    go_wp2_with fail
    refine (bld_String b (s ++ [105, 102] ++ [32, 40] ++ kidT 0 l ++ [41, 32] ++ blkT i 1 l) [32, 101, 108, 115, 101, 32] _ HT1.out.st (by have := Hrm.out; rw [HEl.out] at this; simp only [List.length_append, List.length_cons, List.length_nil] at this ⊢; omega)).mono ?_
    rintro e1 w2 ⟨rfl, hT⟩
    have HT2 := Lib.hid (HT1.out.trans hT)
    have HW2 := Lib.hid (HeldW.to HW1.out Hbw.out hT)
    have HX2 := Lib.hid (HeldN.to HX1.out Hbn.out hT)
    clear hT q0 q1 x0 x1 x2 x3 x4 x5 x6 x7 x8 x9
    obtain ⟨q0, q1⟩ := HeldW.facts HW2.out
    obtain ⟨x0, x1, x2, x3, x4, x5, x6, x7, x8, x9⟩ := HeldN.facts HX2.out
    obtain ⟨g, off, A2, c2', B2, d2, K2, e2, rfl, _, hk', k0, k1, k2, k3, k4, k5, k6, k7, k8, k9⟩ := HE2.out _ HT2.out.bel
    simp only [Nat.reduceMul] at k0 k1 k2 k3 k4 k5 k6 k7 k8 k9
    have HZ := Lib.hid hk'.rd
    clear hk'
    go_upto_region 24 with fail
    go_region_with (first
      | (go_at_call 26; refine (HD.out _ _ (s ++ [105, 102] ++ [32, 40] ++ kidT 0 l ++ [41, 32] ++ blkT i 1 l ++ [32, 101, 108, 115, 101, 32]) Hkk.out (HZ.out.below (drew_b _)) (HT2.out.bel.drew) (HT2.out.st.below (drew_b _)) (by have := Hrm.out; rw [HEl.out] at this; simp only [List.length_append, List.length_cons, List.length_nil] at this ⊢; omega)).mono ?_; rintro e5 w5 ⟨rfl, hT⟩; have HT3 := Lib.hid (HT2.out.trans (BldTo.trans (BldTo.of HT2.out.st (drew_b _)) hT)); clear hT)
      | fail)
    all_goals go_wp2_with fail
    all_goals go_end0
    all_goals exact ⟨rfl, by rw [HTx.out, HEl.out]; have := HT3.out; simpa using this⟩
  · have hz : (Z.kind == 7) = true := by rw [hk7]; rfl
    have HEl := Lib.hid (show elseT i 2 l = [32, 101, 108, 115, 101, 32] ++ stmtT i Z by rw [hel, if_pos hk7])
    clear hv hB hP hr hx hroom hkids hsd hsh hkr hsz H hk01 h2 hel hL hl3
    go_enter Tryd.func45, Tryd.ntmps45
    obtain ⟨q0, q1⟩ := HeldW.facts HW0.out
    obtain ⟨x0, x1, x2, x3, x4, x5, x6, x7, x8, x9⟩ := HeldN.facts HX0.out
    have Hkk := Lib.hid hk7
    clear hk7
    go_wp2_with fail
    refine (HE.out [105, 102] _ s HT0.out.bel HW0.out HX0.out HT0.out.st (by have := Hrm.out; rw [HEl.out] at this; simp only [List.length_append, List.length_cons, List.length_nil] at this ⊢; omega)).mono ?_
    rintro e1 w1 ⟨rfl, hT⟩
    have HT1 := Lib.hid (HT0.out.trans hT)
    have HW1 := Lib.hid (HeldW.to HW0.out Hbw.out hT)
    have HX1 := Lib.hid (HeldN.to HX0.out Hbn.out hT)
    clear hT q0 q1 x0 x1 x2 x3 x4 x5 x6 x7 x8 x9
    obtain ⟨q0, q1⟩ := HeldW.facts HW1.out
    obtain ⟨x0, x1, x2, x3, x4, x5, x6, x7, x8, x9⟩ := HeldN.facts HX1.out
    go_wp2_with fail
    refine (bld_String b (s ++ [105, 102] ++ [32, 40] ++ kidT 0 l ++ [41, 32] ++ blkT i 1 l) [32, 101, 108, 115, 101, 32] _ HT1.out.st (by have := Hrm.out; rw [HEl.out] at this; simp only [List.length_append, List.length_cons, List.length_nil] at this ⊢; omega)).mono ?_
    rintro e1 w2 ⟨rfl, hT⟩
    have HT2 := Lib.hid (HT1.out.trans hT)
    have HW2 := Lib.hid (HeldW.to HW1.out Hbw.out hT)
    have HX2 := Lib.hid (HeldN.to HX1.out Hbn.out hT)
    clear hT q0 q1 x0 x1 x2 x3 x4 x5 x6 x7 x8 x9
    obtain ⟨q0, q1⟩ := HeldW.facts HW2.out
    obtain ⟨x0, x1, x2, x3, x4, x5, x6, x7, x8, x9⟩ := HeldN.facts HX2.out
    obtain ⟨g, off, A2, c2', B2, d2, K2, e2, rfl, _, hk', k0, k1, k2, k3, k4, k5, k6, k7, k8, k9⟩ := HE2.out _ HT2.out.bel
    simp only [Nat.reduceMul] at k0 k1 k2 k3 k4 k5 k6 k7 k8 k9
    have HZ := Lib.hid hk'.rd
    clear hk'
    go_upto_region 23 with fail
    go_region_with (first
      | (go_at_call 45; refine (HS.out _ _ (s ++ [105, 102] ++ [32, 40] ++ kidT 0 l ++ [41, 32] ++ blkT i 1 l ++ [32, 101, 108, 115, 101, 32]) Hkk.out (HZ.out.below (drew_b _)) (HT2.out.bel.drew) (HT2.out.st.below (drew_b _)) (by have := Hrm.out; rw [HEl.out] at this; simp only [List.length_append, List.length_cons, List.length_nil] at this ⊢; omega)).mono ?_; rintro e5 w5 ⟨rfl, hT⟩; have HT3 := Lib.hid (HT2.out.trans (BldTo.trans (BldTo.of HT2.out.st (drew_b _)) hT)); clear hT)
      | fail)
    all_goals go_wp2_with fail
    all_goals go_end0
    all_goals exact ⟨rfl, by rw [HTx.out, HEl.out]; have := HT3.out; simpa using this⟩
set_option maxRecDepth 20000 in
set_option maxHeartbeats 2000000 in
theorem w_stmt_8 (t : List UInt8) (x : V) (f : Bool) (l : List N) (a : Int) (H : StmtOk (SizeOf.sizeOf (N.mk 8 t x f l a))) (A B K : Option Addr) (c d e : Nat) (W : World) (b : Nat) (s : List UInt8) (i : Nat) (hv : RdN (fun k => k < b) W (.agg #[.int .i64 8, .string ⟨t.toArray⟩, .int .i64 x.kind, .int .i64 x.num, .string ⟨x.str.toArray⟩, .slice A x.parts.length c, .slice B x.keys.length d, .bool f, .slice K l.length e, .int .i64 a]) (N.mk 8 t x f l a)) (hr : ∃ o, rightN o (N.mk 8 t x f l a) = true) (hB : BldSt b s W) (hP : PowAt b W) (hroom : s.length + (stmtT i (N.mk 8 t x f l a)).length ≤ 70368744177664) :
    Calls Tryd.prog 45 #[.agg #[.pointer (some ⟨b, 0, none⟩), .int .i64 (i : Int)], .agg #[.int .i64 8, .string ⟨t.toArray⟩, .int .i64 x.kind, .int .i64 x.num, .string ⟨x.str.toArray⟩, .slice A x.parts.length c, .slice B x.keys.length d, .bool f, .slice K l.length e, .int .i64 a]] W fun e W' => e = .returned (.tuple #[]) ∧ BldTo b (s ++ stmtT i (N.mk 8 t x f l a)) W W' := by
  have hx : stmtT i (N.mk 8 t x f l a) = [119, 104, 105, 108, 101] ++ [32, 40] ++ kidT 0 l ++ [41, 32] ++ blkT i 1 l := by rw [stmtT]; rfl
  obtain ⟨o, hr⟩ := hr
  obtain ⟨hsd, hsh⟩ := right_said hr
  have hkr := right_kids hr
  obtain ⟨A', c', B', d', K', e', hve, hn⟩ := hv.form
  have htl : t.length ≤ 16777216 := hn.text
  have hlen : l.length ≤ 16777216 := hn.len
  have hsz := fun (y : N) (hy : y ∈ l) => sz_mem (n := (N.mk 8 t x f l a)) hy
  clear hve hn
  simp only [N.kind, N.kids, N.text] at hsh hkr
  rw [hx] at hroom
  have HTx := Lib.hid hx
  have Hrm := Lib.hid hroom
  have HB := Lib.hid hB
  have HPw := Lib.hid hP
  have HV := Lib.hid hv
  have HT0 := Lib.hid (BldTo.of hB (two_al W (.cells #[.pointer (some ⟨b, 0, none⟩), .int .i64 (i : Int)] 45) (.cells #[.int .i64 8, .string ⟨t.toArray⟩, .int .i64 x.kind, .int .i64 x.num, .string ⟨x.str.toArray⟩, .slice A x.parts.length c, .slice B x.keys.length d, .bool f, .slice K l.length e, .int .i64 a] 28)))
  have HW0 := Lib.hid (show HeldW W.heap.size b i ((W.alloc (.cells #[.pointer (some ⟨b, 0, none⟩), .int .i64 (i : Int)] 45)).alloc (.cells #[.int .i64 8, .string ⟨t.toArray⟩, .int .i64 x.kind, .int .i64 x.num, .string ⟨x.str.toArray⟩, .slice A x.parts.length c, .slice B x.keys.length d, .bool f, .slice K l.length e, .int .i64 a] 28)) from Held.below (Held.at rfl) (one_al _ _))
  have HX0 := Lib.hid (show HeldN (W.heap.size + 1) _ _ _ _ _ _ _ _ _ _ ((W.alloc (.cells #[.pointer (some ⟨b, 0, none⟩), .int .i64 (i : Int)] 45)).alloc (.cells #[.int .i64 8, .string ⟨t.toArray⟩, .int .i64 x.kind, .int .i64 x.num, .string ⟨x.str.toArray⟩, .slice A x.parts.length c, .slice B x.keys.length d, .bool f, .slice K l.length e, .int .i64 a] 28)) from Held.at (by simp))
  have Hbw := Lib.hid hB.lt
  have Hbn := Lib.hid (Nat.lt_succ_of_lt hB.lt)
  have hkids : RdNs (fun k => k < b) W (.slice K l.length e) 0 l := kids_of hv
  have HKd := Lib.hid hkids
  have h2 : 1 < l.length := by simp only [shapeK] at hsh; simp at hsh; omega
  have hk01 : exprK (l[0]'(by omega)).kind = true ∧ (l[1]'h2).kind = 4 := by
    simp only [shapeK] at hsh
    have h := hsh
    simp only [Bool.and_eq_true, beq_iff_eq, Bool.false_eq_true, reduceIte, Int.reduceEq, or_self, or_false, false_or] at h
    rw [List.getD_eq_getElem?_getD, List.getD_eq_getElem?_getD, List.getElem?_map, List.getElem?_map, List.getElem?_eq_getElem (by omega : 0 < l.length), List.getElem?_eq_getElem h2] at h
    simp at h
    exact ⟨h.2.1, h.2.2⟩
  have HE := Lib.hid (fun (op : List UInt8) (W1 : World) (s1 : List UInt8) (hb : Below b W W1) (hW1 : HeldW W.heap.size b i W1) (hX1 : HeldN (W.heap.size + 1) (.int .i64 8) (.string ⟨t.toArray⟩) (.int .i64 x.kind) (.int .i64 x.num) (.string ⟨x.str.toArray⟩) (.slice A x.parts.length c) (.slice B x.keys.length d) (.bool f) (.slice K l.length e) (.int .i64 a) W1) (hB1 : BldSt b s1 W1) (hr1 : s1.length + (op.length + 2 + (kidT 0 l).length + 2 + (blkT i 1 l).length) ≤ 70368744177664) =>
    w_asked _ H l h2 hkr (fun y hy => Nat.le_of_lt (hsz y hy)) hk01.1 hk01.2 K e W.heap.size (W.heap.size + 1) _ _ _ _ _ _ _ _ _ W1 b s1 i op hW1 hX1 hB.lt (Nat.lt_succ_of_lt hB.lt) (hkids.lo hb) hlen hB1 (hP.lo hb) hr1)
  clear hv hB hP hr hx hroom hkids hsd hsh hkr hsz H hk01 h2
  go_enter Tryd.func45, Tryd.ntmps45
  obtain ⟨q0, q1⟩ := HeldW.facts HW0.out
  obtain ⟨x0, x1, x2, x3, x4, x5, x6, x7, x8, x9⟩ := HeldN.facts HX0.out
  go_wp2_with fail
  refine (HE.out [119, 104, 105, 108, 101] _ s HT0.out.bel HW0.out HX0.out HT0.out.st (by have := Hrm.out; (try simp only [List.length_append, List.length_cons, List.length_nil] at this ⊢); omega)).mono ?_
  rintro e1 w1 ⟨rfl, hT⟩
  have HT1 := Lib.hid (HT0.out.trans hT)
  clear hT q0 q1 x0 x1 x2 x3 x4 x5 x6 x7 x8 x9
  go_wp2_with fail
  go_end0
  exact ⟨rfl, by rw [HTx.out]; have := HT1.out; simpa using this⟩
set_option maxRecDepth 20000 in
set_option maxHeartbeats 2000000 in
theorem w_stmt_9 (t : List UInt8) (x : V) (f : Bool) (l : List N) (a : Int) (H : StmtOk (SizeOf.sizeOf (N.mk 9 t x f l a))) (A B K : Option Addr) (c d e : Nat) (W : World) (b : Nat) (s : List UInt8) (i : Nat) (hv : RdN (fun k => k < b) W (.agg #[.int .i64 9, .string ⟨t.toArray⟩, .int .i64 x.kind, .int .i64 x.num, .string ⟨x.str.toArray⟩, .slice A x.parts.length c, .slice B x.keys.length d, .bool f, .slice K l.length e, .int .i64 a]) (N.mk 9 t x f l a)) (hr : ∃ o, rightN o (N.mk 9 t x f l a) = true) (hB : BldSt b s W) (hP : PowAt b W) (hroom : s.length + (stmtT i (N.mk 9 t x f l a)).length ≤ 70368744177664) :
    Calls Tryd.prog 45 #[.agg #[.pointer (some ⟨b, 0, none⟩), .int .i64 (i : Int)], .agg #[.int .i64 9, .string ⟨t.toArray⟩, .int .i64 x.kind, .int .i64 x.num, .string ⟨x.str.toArray⟩, .slice A x.parts.length c, .slice B x.keys.length d, .bool f, .slice K l.length e, .int .i64 a]] W fun e W' => e = .returned (.tuple #[]) ∧ BldTo b (s ++ stmtT i (N.mk 9 t x f l a)) W W' := by
  have hx : stmtT i (N.mk 9 t x f l a) = [114, 101, 116, 117, 114, 110] ++ behT [32] l ++ [59] := by rw [stmtT]; rfl
  obtain ⟨o, hr⟩ := hr
  obtain ⟨hsd, hsh⟩ := right_said hr
  have hkr := right_kids hr
  obtain ⟨A', c', B', d', K', e', hve, hn⟩ := hv.form
  have htl : t.length ≤ 16777216 := hn.text
  have hlen : l.length ≤ 16777216 := hn.len
  have hsz := fun (y : N) (hy : y ∈ l) => sz_mem (n := (N.mk 9 t x f l a)) hy
  clear hve hn
  simp only [N.kind, N.kids, N.text] at hsh hkr
  rw [hx] at hroom
  have HTx := Lib.hid hx
  have Hrm := Lib.hid hroom
  have HB := Lib.hid hB
  have HPw := Lib.hid hP
  have HV := Lib.hid hv
  have HT0 := Lib.hid (BldTo.of hB (two_al W (.cells #[.pointer (some ⟨b, 0, none⟩), .int .i64 (i : Int)] 45) (.cells #[.int .i64 9, .string ⟨t.toArray⟩, .int .i64 x.kind, .int .i64 x.num, .string ⟨x.str.toArray⟩, .slice A x.parts.length c, .slice B x.keys.length d, .bool f, .slice K l.length e, .int .i64 a] 28)))
  have HW0 := Lib.hid (show HeldW W.heap.size b i ((W.alloc (.cells #[.pointer (some ⟨b, 0, none⟩), .int .i64 (i : Int)] 45)).alloc (.cells #[.int .i64 9, .string ⟨t.toArray⟩, .int .i64 x.kind, .int .i64 x.num, .string ⟨x.str.toArray⟩, .slice A x.parts.length c, .slice B x.keys.length d, .bool f, .slice K l.length e, .int .i64 a] 28)) from Held.below (Held.at rfl) (one_al _ _))
  have HX0 := Lib.hid (show HeldN (W.heap.size + 1) _ _ _ _ _ _ _ _ _ _ ((W.alloc (.cells #[.pointer (some ⟨b, 0, none⟩), .int .i64 (i : Int)] 45)).alloc (.cells #[.int .i64 9, .string ⟨t.toArray⟩, .int .i64 x.kind, .int .i64 x.num, .string ⟨x.str.toArray⟩, .slice A x.parts.length c, .slice B x.keys.length d, .bool f, .slice K l.length e, .int .i64 a] 28)) from Held.at (by simp))
  have Hbw := Lib.hid hB.lt
  have Hbn := Lib.hid (Nat.lt_succ_of_lt hB.lt)
  have hkids : RdNs (fun k => k < b) W (.slice K l.length e) 0 l := kids_of hv
  have HKd := Lib.hid hkids
  have HE := Lib.hid (fun (op sg : List UInt8) (W1 : World) (s1 : List UInt8) (hb : Below b W W1) (hW1 : HeldW W.heap.size b i W1) (hX1 : HeldN (W.heap.size + 1) (.int .i64 9) (.string ⟨t.toArray⟩) (.int .i64 x.kind) (.int .i64 x.num) (.string ⟨x.str.toArray⟩) (.slice A x.parts.length c) (.slice B x.keys.length d) (.bool f) (.slice K l.length e) (.int .i64 a) W1) (hB1 : BldSt b s1 W1) (hr1 : s1.length + (op.length + (behT sg l).length + 1) ≤ 70368744177664) =>
    w_line l hkr (all_kinds (l := l) (by simp only [shapeK] at hsh; simp at hsh; simpa using hsh.2)) K e W.heap.size (W.heap.size + 1) _ _ _ _ _ _ _ _ _ W1 b s1 i op sg hW1 hX1 hB.lt (Nat.lt_succ_of_lt hB.lt) (hkids.lo hb) hlen hB1 (hP.lo hb) hr1)
  clear hv hB hP hr hx hroom hkids hsd hsh hkr hsz H
  go_enter Tryd.func45, Tryd.ntmps45
  obtain ⟨q0, q1⟩ := HeldW.facts HW0.out
  obtain ⟨x0, x1, x2, x3, x4, x5, x6, x7, x8, x9⟩ := HeldN.facts HX0.out
  go_wp2_with fail
  refine (HE.out [114, 101, 116, 117, 114, 110] [32] _ s HT0.out.bel HW0.out HX0.out HT0.out.st (by have := Hrm.out; (try simp only [List.length_append, List.length_cons, List.length_nil] at this ⊢); omega)).mono ?_
  rintro e1 w1 ⟨rfl, hT⟩
  have HT1 := Lib.hid (HT0.out.trans hT)
  clear hT q0 q1 x0 x1 x2 x3 x4 x5 x6 x7 x8 x9
  go_wp2_with fail
  go_end0
  exact ⟨rfl, by rw [HTx.out]; have := HT1.out; simpa using this⟩
set_option maxRecDepth 20000 in
set_option maxHeartbeats 2000000 in
theorem w_stmt_10 (t : List UInt8) (x : V) (f : Bool) (l : List N) (a : Int) (H : StmtOk (SizeOf.sizeOf (N.mk 10 t x f l a))) (A B K : Option Addr) (c d e : Nat) (W : World) (b : Nat) (s : List UInt8) (i : Nat) (hv : RdN (fun k => k < b) W (.agg #[.int .i64 10, .string ⟨t.toArray⟩, .int .i64 x.kind, .int .i64 x.num, .string ⟨x.str.toArray⟩, .slice A x.parts.length c, .slice B x.keys.length d, .bool f, .slice K l.length e, .int .i64 a]) (N.mk 10 t x f l a)) (hr : ∃ o, rightN o (N.mk 10 t x f l a) = true) (hB : BldSt b s W) (hP : PowAt b W) (hroom : s.length + (stmtT i (N.mk 10 t x f l a)).length ≤ 70368744177664) :
    Calls Tryd.prog 45 #[.agg #[.pointer (some ⟨b, 0, none⟩), .int .i64 (i : Int)], .agg #[.int .i64 10, .string ⟨t.toArray⟩, .int .i64 x.kind, .int .i64 x.num, .string ⟨x.str.toArray⟩, .slice A x.parts.length c, .slice B x.keys.length d, .bool f, .slice K l.length e, .int .i64 a]] W fun e W' => e = .returned (.tuple #[]) ∧ BldTo b (s ++ stmtT i (N.mk 10 t x f l a)) W W' := by
  have hx : stmtT i (N.mk 10 t x f l a) = [98, 114, 101, 97, 107] ++ behT [] l ++ [59] := by rw [stmtT]; rfl
  obtain ⟨o, hr⟩ := hr
  obtain ⟨hsd, hsh⟩ := right_said hr
  have hkr := right_kids hr
  obtain ⟨A', c', B', d', K', e', hve, hn⟩ := hv.form
  have htl : t.length ≤ 16777216 := hn.text
  have hlen : l.length ≤ 16777216 := hn.len
  have hsz := fun (y : N) (hy : y ∈ l) => sz_mem (n := (N.mk 10 t x f l a)) hy
  clear hve hn
  simp only [N.kind, N.kids, N.text] at hsh hkr
  rw [hx] at hroom
  have HTx := Lib.hid hx
  have Hrm := Lib.hid hroom
  have HB := Lib.hid hB
  have HPw := Lib.hid hP
  have HV := Lib.hid hv
  have HT0 := Lib.hid (BldTo.of hB (two_al W (.cells #[.pointer (some ⟨b, 0, none⟩), .int .i64 (i : Int)] 45) (.cells #[.int .i64 10, .string ⟨t.toArray⟩, .int .i64 x.kind, .int .i64 x.num, .string ⟨x.str.toArray⟩, .slice A x.parts.length c, .slice B x.keys.length d, .bool f, .slice K l.length e, .int .i64 a] 28)))
  have HW0 := Lib.hid (show HeldW W.heap.size b i ((W.alloc (.cells #[.pointer (some ⟨b, 0, none⟩), .int .i64 (i : Int)] 45)).alloc (.cells #[.int .i64 10, .string ⟨t.toArray⟩, .int .i64 x.kind, .int .i64 x.num, .string ⟨x.str.toArray⟩, .slice A x.parts.length c, .slice B x.keys.length d, .bool f, .slice K l.length e, .int .i64 a] 28)) from Held.below (Held.at rfl) (one_al _ _))
  have HX0 := Lib.hid (show HeldN (W.heap.size + 1) _ _ _ _ _ _ _ _ _ _ ((W.alloc (.cells #[.pointer (some ⟨b, 0, none⟩), .int .i64 (i : Int)] 45)).alloc (.cells #[.int .i64 10, .string ⟨t.toArray⟩, .int .i64 x.kind, .int .i64 x.num, .string ⟨x.str.toArray⟩, .slice A x.parts.length c, .slice B x.keys.length d, .bool f, .slice K l.length e, .int .i64 a] 28)) from Held.at (by simp))
  have Hbw := Lib.hid hB.lt
  have Hbn := Lib.hid (Nat.lt_succ_of_lt hB.lt)
  have hkids : RdNs (fun k => k < b) W (.slice K l.length e) 0 l := kids_of hv
  have HKd := Lib.hid hkids
  have HE := Lib.hid (fun (op sg : List UInt8) (W1 : World) (s1 : List UInt8) (hb : Below b W W1) (hW1 : HeldW W.heap.size b i W1) (hX1 : HeldN (W.heap.size + 1) (.int .i64 10) (.string ⟨t.toArray⟩) (.int .i64 x.kind) (.int .i64 x.num) (.string ⟨x.str.toArray⟩) (.slice A x.parts.length c) (.slice B x.keys.length d) (.bool f) (.slice K l.length e) (.int .i64 a) W1) (hB1 : BldSt b s1 W1) (hr1 : s1.length + (op.length + (behT sg l).length + 1) ≤ 70368744177664) =>
    w_line l hkr ((fun y hy => by simp only [shapeK] at hsh; simp at hsh; rw [hsh] at hy; cases hy)) K e W.heap.size (W.heap.size + 1) _ _ _ _ _ _ _ _ _ W1 b s1 i op sg hW1 hX1 hB.lt (Nat.lt_succ_of_lt hB.lt) (hkids.lo hb) hlen hB1 (hP.lo hb) hr1)
  clear hv hB hP hr hx hroom hkids hsd hsh hkr hsz H
  go_enter Tryd.func45, Tryd.ntmps45
  obtain ⟨q0, q1⟩ := HeldW.facts HW0.out
  obtain ⟨x0, x1, x2, x3, x4, x5, x6, x7, x8, x9⟩ := HeldN.facts HX0.out
  go_wp2_with fail
  refine (HE.out [98, 114, 101, 97, 107] [] _ s HT0.out.bel HW0.out HX0.out HT0.out.st (by have := Hrm.out; (try simp only [List.length_append, List.length_cons, List.length_nil] at this ⊢); omega)).mono ?_
  rintro e1 w1 ⟨rfl, hT⟩
  have HT1 := Lib.hid (HT0.out.trans hT)
  clear hT q0 q1 x0 x1 x2 x3 x4 x5 x6 x7 x8 x9
  go_wp2_with fail
  go_end0
  exact ⟨rfl, by rw [HTx.out]; have := HT1.out; simpa using this⟩
set_option maxRecDepth 20000 in
set_option maxHeartbeats 2000000 in
theorem w_stmt_11 (t : List UInt8) (x : V) (f : Bool) (l : List N) (a : Int) (H : StmtOk (SizeOf.sizeOf (N.mk 11 t x f l a))) (A B K : Option Addr) (c d e : Nat) (W : World) (b : Nat) (s : List UInt8) (i : Nat) (hv : RdN (fun k => k < b) W (.agg #[.int .i64 11, .string ⟨t.toArray⟩, .int .i64 x.kind, .int .i64 x.num, .string ⟨x.str.toArray⟩, .slice A x.parts.length c, .slice B x.keys.length d, .bool f, .slice K l.length e, .int .i64 a]) (N.mk 11 t x f l a)) (hr : ∃ o, rightN o (N.mk 11 t x f l a) = true) (hB : BldSt b s W) (hP : PowAt b W) (hroom : s.length + (stmtT i (N.mk 11 t x f l a)).length ≤ 70368744177664) :
    Calls Tryd.prog 45 #[.agg #[.pointer (some ⟨b, 0, none⟩), .int .i64 (i : Int)], .agg #[.int .i64 11, .string ⟨t.toArray⟩, .int .i64 x.kind, .int .i64 x.num, .string ⟨x.str.toArray⟩, .slice A x.parts.length c, .slice B x.keys.length d, .bool f, .slice K l.length e, .int .i64 a]] W fun e W' => e = .returned (.tuple #[]) ∧ BldTo b (s ++ stmtT i (N.mk 11 t x f l a)) W W' := by
  have hx : stmtT i (N.mk 11 t x f l a) = [99, 111, 110, 116, 105, 110, 117, 101] ++ behT [] l ++ [59] := by rw [stmtT]; rfl
  obtain ⟨o, hr⟩ := hr
  obtain ⟨hsd, hsh⟩ := right_said hr
  have hkr := right_kids hr
  obtain ⟨A', c', B', d', K', e', hve, hn⟩ := hv.form
  have htl : t.length ≤ 16777216 := hn.text
  have hlen : l.length ≤ 16777216 := hn.len
  have hsz := fun (y : N) (hy : y ∈ l) => sz_mem (n := (N.mk 11 t x f l a)) hy
  clear hve hn
  simp only [N.kind, N.kids, N.text] at hsh hkr
  rw [hx] at hroom
  have HTx := Lib.hid hx
  have Hrm := Lib.hid hroom
  have HB := Lib.hid hB
  have HPw := Lib.hid hP
  have HV := Lib.hid hv
  have HT0 := Lib.hid (BldTo.of hB (two_al W (.cells #[.pointer (some ⟨b, 0, none⟩), .int .i64 (i : Int)] 45) (.cells #[.int .i64 11, .string ⟨t.toArray⟩, .int .i64 x.kind, .int .i64 x.num, .string ⟨x.str.toArray⟩, .slice A x.parts.length c, .slice B x.keys.length d, .bool f, .slice K l.length e, .int .i64 a] 28)))
  have HW0 := Lib.hid (show HeldW W.heap.size b i ((W.alloc (.cells #[.pointer (some ⟨b, 0, none⟩), .int .i64 (i : Int)] 45)).alloc (.cells #[.int .i64 11, .string ⟨t.toArray⟩, .int .i64 x.kind, .int .i64 x.num, .string ⟨x.str.toArray⟩, .slice A x.parts.length c, .slice B x.keys.length d, .bool f, .slice K l.length e, .int .i64 a] 28)) from Held.below (Held.at rfl) (one_al _ _))
  have HX0 := Lib.hid (show HeldN (W.heap.size + 1) _ _ _ _ _ _ _ _ _ _ ((W.alloc (.cells #[.pointer (some ⟨b, 0, none⟩), .int .i64 (i : Int)] 45)).alloc (.cells #[.int .i64 11, .string ⟨t.toArray⟩, .int .i64 x.kind, .int .i64 x.num, .string ⟨x.str.toArray⟩, .slice A x.parts.length c, .slice B x.keys.length d, .bool f, .slice K l.length e, .int .i64 a] 28)) from Held.at (by simp))
  have Hbw := Lib.hid hB.lt
  have Hbn := Lib.hid (Nat.lt_succ_of_lt hB.lt)
  have hkids : RdNs (fun k => k < b) W (.slice K l.length e) 0 l := kids_of hv
  have HKd := Lib.hid hkids
  have HE := Lib.hid (fun (op sg : List UInt8) (W1 : World) (s1 : List UInt8) (hb : Below b W W1) (hW1 : HeldW W.heap.size b i W1) (hX1 : HeldN (W.heap.size + 1) (.int .i64 11) (.string ⟨t.toArray⟩) (.int .i64 x.kind) (.int .i64 x.num) (.string ⟨x.str.toArray⟩) (.slice A x.parts.length c) (.slice B x.keys.length d) (.bool f) (.slice K l.length e) (.int .i64 a) W1) (hB1 : BldSt b s1 W1) (hr1 : s1.length + (op.length + (behT sg l).length + 1) ≤ 70368744177664) =>
    w_line l hkr ((fun y hy => by simp only [shapeK] at hsh; simp at hsh; rw [hsh] at hy; cases hy)) K e W.heap.size (W.heap.size + 1) _ _ _ _ _ _ _ _ _ W1 b s1 i op sg hW1 hX1 hB.lt (Nat.lt_succ_of_lt hB.lt) (hkids.lo hb) hlen hB1 (hP.lo hb) hr1)
  clear hv hB hP hr hx hroom hkids hsd hsh hkr hsz H
  go_enter Tryd.func45, Tryd.ntmps45
  obtain ⟨q0, q1⟩ := HeldW.facts HW0.out
  obtain ⟨x0, x1, x2, x3, x4, x5, x6, x7, x8, x9⟩ := HeldN.facts HX0.out
  go_wp2_with fail
  refine (HE.out [99, 111, 110, 116, 105, 110, 117, 101] [] _ s HT0.out.bel HW0.out HX0.out HT0.out.st (by have := Hrm.out; (try simp only [List.length_append, List.length_cons, List.length_nil] at this ⊢); omega)).mono ?_
  rintro e1 w1 ⟨rfl, hT⟩
  have HT1 := Lib.hid (HT0.out.trans hT)
  clear hT q0 q1 x0 x1 x2 x3 x4 x5 x6 x7 x8 x9
  go_wp2_with fail
  go_end0
  exact ⟨rfl, by rw [HTx.out]; have := HT1.out; simpa using this⟩
set_option maxRecDepth 20000 in
set_option maxHeartbeats 2000000 in
theorem w_stmt_12 (t : List UInt8) (x : V) (f : Bool) (l : List N) (a : Int) (H : StmtOk (SizeOf.sizeOf (N.mk 12 t x f l a))) (A B K : Option Addr) (c d e : Nat) (W : World) (b : Nat) (s : List UInt8) (i : Nat) (hv : RdN (fun k => k < b) W (.agg #[.int .i64 12, .string ⟨t.toArray⟩, .int .i64 x.kind, .int .i64 x.num, .string ⟨x.str.toArray⟩, .slice A x.parts.length c, .slice B x.keys.length d, .bool f, .slice K l.length e, .int .i64 a]) (N.mk 12 t x f l a)) (hr : ∃ o, rightN o (N.mk 12 t x f l a) = true) (hB : BldSt b s W) (hP : PowAt b W) (hroom : s.length + (stmtT i (N.mk 12 t x f l a)).length ≤ 70368744177664) :
    Calls Tryd.prog 45 #[.agg #[.pointer (some ⟨b, 0, none⟩), .int .i64 (i : Int)], .agg #[.int .i64 12, .string ⟨t.toArray⟩, .int .i64 x.kind, .int .i64 x.num, .string ⟨x.str.toArray⟩, .slice A x.parts.length c, .slice B x.keys.length d, .bool f, .slice K l.length e, .int .i64 a]] W fun e W' => e = .returned (.tuple #[]) ∧ BldTo b (s ++ stmtT i (N.mk 12 t x f l a)) W W' := by
  have hx : stmtT i (N.mk 12 t x f l a) = behT [] l ++ [59] := by rw [stmtT]; rfl
  obtain ⟨o, hr⟩ := hr
  obtain ⟨hsd, hsh⟩ := right_said hr
  have hkr := right_kids hr
  obtain ⟨A', c', B', d', K', e', hve, hn⟩ := hv.form
  have htl : t.length ≤ 16777216 := hn.text
  have hlen : l.length ≤ 16777216 := hn.len
  have hsz := fun (y : N) (hy : y ∈ l) => sz_mem (n := (N.mk 12 t x f l a)) hy
  clear hve hn
  simp only [N.kind, N.kids, N.text] at hsh hkr
  rw [hx] at hroom
  have HTx := Lib.hid hx
  have Hrm := Lib.hid hroom
  have HB := Lib.hid hB
  have HPw := Lib.hid hP
  have HV := Lib.hid hv
  have HT0 := Lib.hid (BldTo.of hB (two_al W (.cells #[.pointer (some ⟨b, 0, none⟩), .int .i64 (i : Int)] 45) (.cells #[.int .i64 12, .string ⟨t.toArray⟩, .int .i64 x.kind, .int .i64 x.num, .string ⟨x.str.toArray⟩, .slice A x.parts.length c, .slice B x.keys.length d, .bool f, .slice K l.length e, .int .i64 a] 28)))
  have HW0 := Lib.hid (show HeldW W.heap.size b i ((W.alloc (.cells #[.pointer (some ⟨b, 0, none⟩), .int .i64 (i : Int)] 45)).alloc (.cells #[.int .i64 12, .string ⟨t.toArray⟩, .int .i64 x.kind, .int .i64 x.num, .string ⟨x.str.toArray⟩, .slice A x.parts.length c, .slice B x.keys.length d, .bool f, .slice K l.length e, .int .i64 a] 28)) from Held.below (Held.at rfl) (one_al _ _))
  have HX0 := Lib.hid (show HeldN (W.heap.size + 1) _ _ _ _ _ _ _ _ _ _ ((W.alloc (.cells #[.pointer (some ⟨b, 0, none⟩), .int .i64 (i : Int)] 45)).alloc (.cells #[.int .i64 12, .string ⟨t.toArray⟩, .int .i64 x.kind, .int .i64 x.num, .string ⟨x.str.toArray⟩, .slice A x.parts.length c, .slice B x.keys.length d, .bool f, .slice K l.length e, .int .i64 a] 28)) from Held.at (by simp))
  have Hbw := Lib.hid hB.lt
  have Hbn := Lib.hid (Nat.lt_succ_of_lt hB.lt)
  have hkids : RdNs (fun k => k < b) W (.slice K l.length e) 0 l := kids_of hv
  have HKd := Lib.hid hkids
  have HE := Lib.hid (fun (op sg : List UInt8) (W1 : World) (s1 : List UInt8) (hb : Below b W W1) (hW1 : HeldW W.heap.size b i W1) (hX1 : HeldN (W.heap.size + 1) (.int .i64 12) (.string ⟨t.toArray⟩) (.int .i64 x.kind) (.int .i64 x.num) (.string ⟨x.str.toArray⟩) (.slice A x.parts.length c) (.slice B x.keys.length d) (.bool f) (.slice K l.length e) (.int .i64 a) W1) (hB1 : BldSt b s1 W1) (hr1 : s1.length + (op.length + (behT sg l).length + 1) ≤ 70368744177664) =>
    w_line l hkr (all_kinds (l := l) (by simp only [shapeK] at hsh; simp at hsh; simpa using hsh.2)) K e W.heap.size (W.heap.size + 1) _ _ _ _ _ _ _ _ _ W1 b s1 i op sg hW1 hX1 hB.lt (Nat.lt_succ_of_lt hB.lt) (hkids.lo hb) hlen hB1 (hP.lo hb) hr1)
  clear hv hB hP hr hx hroom hkids hsd hsh hkr hsz H
  go_enter Tryd.func45, Tryd.ntmps45
  obtain ⟨q0, q1⟩ := HeldW.facts HW0.out
  obtain ⟨x0, x1, x2, x3, x4, x5, x6, x7, x8, x9⟩ := HeldN.facts HX0.out
  go_wp2_with fail
  refine (HE.out [] [] _ s HT0.out.bel HW0.out HX0.out HT0.out.st (by have := Hrm.out; (try simp only [List.length_append, List.length_cons, List.length_nil] at this ⊢); omega)).mono ?_
  rintro e1 w1 ⟨rfl, hT⟩
  have HT1 := Lib.hid (HT0.out.trans hT)
  clear hT q0 q1 x0 x1 x2 x3 x4 x5 x6 x7 x8 x9
  go_wp2_with fail
  go_end0
  exact ⟨rfl, by rw [HTx.out]; have := HT1.out; simpa using this⟩
theorem stmt_kinds {k : Int} (h : stmtK k = true) : k = 5 ∨ k = 6 ∨ k = 7 ∨ k = 8 ∨ k = 9 ∨ k = 10 ∨ k = 11 ∨ k = 12 := by
  unfold stmtK at h
  have h1 : 5 ≤ k ∧ k ≤ 12 := by
    rw [Bool.and_eq_true] at h
    exact ⟨of_decide_eq_true h.1, of_decide_eq_true h.2⟩
  omega
theorem w_statement : ∀ m, StmtOk m := by
  intro m
  induction m with
  | zero => exact fun n hn => absurd hn (Nat.not_lt_zero _)
  | succ m ih =>
    intro n hn v W b s i hv hr hk hB hP hroom
    have H : StmtOk (SizeOf.sizeOf n) := fun y hy => ih y (by omega)
    obtain ⟨A, c, B, d, K, e, rfl, _⟩ := hv.form
    cases n with
    | mk k t x f l a =>
    have hk' := stmt_kinds (k := k) hk
    rcases hk' with rfl | rfl | rfl | rfl | rfl | rfl | rfl | rfl
    · exact w_stmt_5 t x f l a H A B K c d e W b s i hv hr hB hP hroom
    · exact w_stmt_6 t x f l a H A B K c d e W b s i hv hr hB hP hroom
    · have h23 : l.length = 2 ∨ l.length = 3 := by
        obtain ⟨o, hr⟩ := hr
        have h := (right_said hr).2
        simp only [N.kind, N.kids, shapeK] at h
        simp at h
        exact h.1
      rcases h23 with h | h
      · exact w_stmt_7_2 t x f l a h H A B K c d e W b s i hv hr hB hP hroom
      · exact w_stmt_7_3 t x f l a h H A B K c d e W b s i hv hr hB hP hroom
    · exact w_stmt_8 t x f l a H A B K c d e W b s i hv hr hB hP hroom
    · exact w_stmt_9 t x f l a H A B K c d e W b s i hv hr hB hP hroom
    · exact w_stmt_10 t x f l a H A B K c d e W b s i hv hr hB hP hroom
    · exact w_stmt_11 t x f l a H A B K c d e W b s i hv hr hB hP hroom
    · exact w_stmt_12 t x f l a H A B K c d e W b s i hv hr hB hP hroom
end Go.Proofs.YthlfeiiolafonaaDoor
