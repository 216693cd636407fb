/- The writer: its own boxes, its builder, what a call keeps; row, part. -/
import Derived.Test.YthlfeiiolafonaaDoorLenB
import Derived.Test.YthlfeiiolafonaaDoorPrintRight
import Derived.Test.YthlfeiiolafonaaDoorShapeB
import Derived.Test.YthlfeiiolafonaaDoorBld
import Derived.Deep.DeepCutAuto
import Derived.Deep.RegionLaw
import Derived.Deep.RegionWith
import Derived.BigQuiet
import Derived.Lib.LaidTab
import Derived.Lib.ItoaNum
set_option linter.unusedVariables false
set_option linter.unusedSimpArgs false
namespace Go.Proofs.YthlfeiiolafonaaDoor
open Go.RowKit Go.IntWalk

theorem BldSt.below {b : Nat} {s : List UInt8} {w w' : World} (h : BldSt b s w) (hb : Below w.heap.size w w') : BldSt b s w' := by
  have key : ∀ {p : Value}, Lib.BuilderAtF 43 5 b b p (Lib.byteCells s) w → Lib.BuilderAtF 43 5 b b p (Lib.byteCells s) w' := by
    intro p h
    have hlt := h.lt
    obtain ⟨hB, v, hv, hown, hne⟩ := h
    exact ⟨hB, v, (hb.block b hlt).trans hv, hown.kept (row := none) ⟨hb.os, hb.tape, hb.output, hb.size, fun k hk _ => hb.block k hk⟩ (Classical.em _), hne⟩
  exact h.elim (fun x => .inl (key x)) (fun x => .inr (key x))
theorem kept_of_below {w w' : World} (hb : Below w.heap.size w w') (e : TypeId) (b : Option Nat) : Lib.OthersKept e b w w' := fun k o hk _ _ => by
  rw [hb.block k (Array.getElem?_eq_some_iff.1 hk).1]
  exact hk
/-- what a call that only lays new memory does to the builder: nothing -/
theorem BldTo.of {b : Nat} {s : List UInt8} {w w' : World} (h : BldSt b s w) (hb : Below w.heap.size w w') : BldTo b s w w' :=
  ⟨h.below hb, hb.mono (Nat.le_of_lt h.lt), kept_of_below hb _ _⟩
theorem BldTo.more {b : Nat} {s : List UInt8} {w w1 w2 : World} (h : BldTo b s w w1) (hb : Below w1.heap.size w1 w2) : BldTo b s w w2 := h.trans (BldTo.of h.st hb)
theorem BldTo.al {b : Nat} {s : List UInt8} {w w1 : World} (h : BldTo b s w w1) (X : Obj) : BldTo b s w (w1.alloc X) := h.more (one_al _ _)
/-- a box of the call's own -/
def Held (g : Nat) (cs : Array Value) (t : TypeId) (W : World) : Prop := ∃ fz, W.heap[g]? = some (.cells cs t fz)
theorem Held.at {g : Nat} {W : World} {cs : Array Value} {t : TypeId} (h : g = W.heap.size) : Held g cs t (W.alloc (.cells cs t)) := ⟨_, by subst h; exact heap_alloc_new W _⟩
theorem Held.cell {g : Nat} {cs : Array Value} {t : TypeId} {W : World} (h : Held g cs t W) (i : Nat) {v : Value} (hv : cs[i]? = some v) : W.cell? ⟨g, i, none⟩ = some v := by
  obtain ⟨fz, h⟩ := h
  rw [Lib.cell_of_heap h]
  exact hv
theorem Held.lt {g : Nat} {cs : Array Value} {t : TypeId} {W : World} (h : Held g cs t W) : g < W.heap.size := by
  obtain ⟨fz, h⟩ := h
  exact (Array.getElem?_eq_some_iff.1 h).1
theorem Held.below {g : Nat} {cs : Array Value} {t : TypeId} {W W' : World} (h : Held g cs t W) (hb : Below W.heap.size W W') : Held g cs t W' := by
  have hl := h.lt
  obtain ⟨fz, h⟩ := h
  exact ⟨fz, (hb.block g hl).trans h⟩
theorem Held.to {g b : Nat} {s : List UInt8} {cs : Array Value} {t : TypeId} {W W' : World} (h : Held g cs t W) (ht : t ≠ 5) (hg : b < g) (hk : BldTo b s W W') : Held g cs t W' := by
  obtain ⟨fz, h⟩ := h
  exact ⟨fz, hk.kept g _ h (fun e => by injection e with e; omega) (fun c f e => by injection e with _ e2 _; exact ht e2)⟩
/-- the writer's box -/
abbrev HeldW (g b : Nat) (i : Int) (W : World) : Prop := Held g #[.pointer (some ⟨b, 0, none⟩), .int .i64 i] 45 W
theorem HeldW.facts {g b : Nat} {i : Int} {W : World} (h : HeldW g b i W) : W.cell? ⟨g, 0, none⟩ = some (.pointer (some ⟨b, 0, none⟩)) ∧ W.cell? ⟨g, 1, none⟩ = some (.int .i64 i) := ⟨h.cell 0 rfl, h.cell 1 rfl⟩
theorem HeldW.al {g b : Nat} {i : Int} {W : World} (h : HeldW g b i W) : (∀ X, (W.alloc X).cell? ⟨g, 0, none⟩ = some (.pointer (some ⟨b, 0, none⟩))) ∧ ∀ X, (W.alloc X).cell? ⟨g, 1, none⟩ = some (.int .i64 i) := ⟨fun X => (HeldW.facts (Held.below h (one_al W X))).1, fun X => (HeldW.facts (Held.below h (one_al W X))).2⟩
theorem HeldW.to {g b : Nat} {s : List UInt8} {i : Int} {W W' : World} (h : HeldW g b i W) (hg : b < g) (hk : BldTo b s W W') : HeldW g b i W' := Held.to h (by decide) hg hk
/-- a node's box -/
abbrev HeldN (g : Nat) (c0 c1 c2 c3 c4 c5 c6 c7 c8 c9 : Value) (W : World) : Prop := Held g #[c0, c1, c2, c3, c4, c5, c6, c7, c8, c9] 28 W
theorem HeldN.facts {g : Nat} {c0 c1 c2 c3 c4 c5 c6 c7 c8 c9 : Value} {W : World} (h : HeldN g c0 c1 c2 c3 c4 c5 c6 c7 c8 c9 W) :
    W.cell? ⟨g, 0, none⟩ = some c0 ∧ W.cell? ⟨g, 1, none⟩ = some c1 ∧ W.cell? ⟨g, 2, none⟩ = some c2 ∧ W.cell? ⟨g, 3, none⟩ = some c3 ∧ W.cell? ⟨g, 4, none⟩ = some c4 ∧ W.cell? ⟨g, 5, none⟩ = some c5 ∧ W.cell? ⟨g, 6, none⟩ = some c6 ∧ W.cell? ⟨g, 7, none⟩ = some c7 ∧ W.cell? ⟨g, 8, none⟩ = some c8 ∧ W.cell? ⟨g, 9, none⟩ = some c9 :=
  ⟨h.cell 0 rfl, h.cell 1 rfl, h.cell 2 rfl, h.cell 3 rfl, h.cell 4 rfl, h.cell 5 rfl, h.cell 6 rfl, h.cell 7 rfl, h.cell 8 rfl, h.cell 9 rfl⟩
theorem HeldN.to {g b : Nat} {s : List UInt8} {c0 c1 c2 c3 c4 c5 c6 c7 c8 c9 : Value} {W W' : World} (h : HeldN g c0 c1 c2 c3 c4 c5 c6 c7 c8 c9 W) (hg : b < g) (hk : BldTo b s W W') : HeldN g c0 c1 c2 c3 c4 c5 c6 c7 c8 c9 W' := Held.to h (by decide) hg hk
theorem fr_of_below {b : Nat} {w w' : World} (hb : Below b w w') : Fr (fun k => b ≤ k) w w' := ⟨hb.os, hb.tape, hb.output, hb.size, fun k _ hk => hb.block k (by omega)⟩
theorem RdN.lo {b : Nat} {w w' : World} {v : Value} {n : N} (h : RdN (fun k => k < b) w v n) (hb : Below b w w') : RdN (fun k => k < b) w' v n := h.fr (fr_of_below hb) fun k _ h1 h2 => by omega
theorem RdNs.lo {b i : Nat} {w w' : World} {v : Value} {l : List N} (h : RdNs (fun k => k < b) w v i l) (hb : Below b w w') : RdNs (fun k => k < b) w' v i l := h.fr (fr_of_below hb) fun k _ h1 h2 => by omega
/-- the table of the powers of ten stands, below b -/
def PowAt (b : Nat) (W : World) : Prop := Lib.TabIs Tryd.prog W "internal/strconv.uint64pow10" .u64 Lib.pow10Tab ∧ ∀ g, Tryd.prog.globalNamed "internal/strconv.uint64pow10" = some g → g < b
theorem PowAt.lo {b : Nat} {W W' : World} (h : PowAt b W) (hb : Below b W W') : PowAt b W' := by
  refine ⟨?_, h.2⟩
  have h1 := h.1
  unfold Lib.TabIs World.var? at h1 ⊢
  cases hg : Tryd.prog.globalNamed "internal/strconv.uint64pow10" with
  | none => rw [hg] at h1; cases h1
  | some g =>
    rw [hg] at h1
    simp only [Option.bind_some] at h1 ⊢
    rw [hb.block g (h.2 g hg)]
    exact h1
theorem drew_b (w : World) : Below w.heap.size w w.drew := (Below.refl _ _).drew
/-- the writer's expr, at all nodes smaller than so -/
def ExprOk (m : Nat) : Prop := ∀ (n : N), SizeOf.sizeOf n < m → ∀ (v : Value) (W : World) (b : Nat) (s : List UInt8) (i : Int), RdN (fun k => k < b) W v n → (∃ o, rightN o n = true) → (exprK n.kind = true ∨ n.kind = 20) → BldSt b s W → PowAt b W → s.length + (exprT n).length ≤ 70368744177664 →
  Calls Tryd.prog 21 #[.agg #[.pointer (some ⟨b, 0, none⟩), .int .i64 i], v] W fun e W' => e = .returned (.tuple #[]) ∧ BldTo b (s ++ exprT n) W W'
theorem rowT_take : ∀ (l : List N) (i k : Nat) (h : k < l.length), rowT i (l.take (k + 1)) = rowT i (l.take k) ++ ((if i + k = 0 then [] else [44, 32]) ++ exprT l[k])
  | x :: l, i, 0, h => by simp [rowT]
  | x :: l, i, k + 1, h => by
    rw [List.take_succ_cons, List.take_succ_cons, rowT, rowT, rowT_take l (i + 1) k (by simpa using h)]
    simp only [List.getElem_cons_succ, List.append_assoc, show i + 1 + k = i + (k + 1) by omega]
theorem rowT_len_take (l : List N) (i k : Nat) : (rowT i (l.take k)).length ≤ (rowT i l).length := by
  induction l generalizing i k with
  | nil => simp
  | cons x l ih =>
    cases k with
    | zero => simp [rowT]
    | succ k =>
      rw [List.take_succ_cons, rowT, rowT]
      have := ih (i + 1) k
      simp only [List.length_append]
      omega
theorem partT_at {k : Int} {t : List UInt8} {i : Nat} : ∀ {l : List N} {j : Nat} (h : j < l.length), partT k t i j l = inBr (wrapK k t (bindingS l[j]) i) (exprT l[j])
  | x :: l, 0, h => by rw [partT]; rfl
  | x :: l, j + 1, h => by
    rw [partT]
    exact partT_at (by simpa using h)
theorem kidT_at : ∀ {l : List N} {j : Nat} (h : j < l.length), kidT j l = exprT l[j]
  | x :: l, 0, h => by rw [kidT]; rfl
  | x :: l, j + 1, h => by
    rw [kidT]
    exact kidT_at (by simpa using h)
set_option maxRecDepth 20000 in
set_option maxHeartbeats 4000000 in
theorem w_row (m : Nat) (H : ExprOk m) (l : List N) (hm : ∀ n ∈ l, SizeOf.sizeOf n < m) (hR : ∀ n ∈ l, ∃ o, rightN o n = true) (hK : ∀ n ∈ l, exprK n.kind = true ∨ n.kind = 20) (K : Option Addr) (e : Nat) (W : World) (b : Nat) (s : List UInt8) (i : Int) (hl : RdNs (fun k => k < b) W (.slice K l.length e) 0 l) (hlen : l.length ≤ 16777216) (hB : BldSt b s W) (hP : PowAt b W) (hroom : s.length + (rowT 0 l).length ≤ 70368744177664) :
    Calls Tryd.prog 24 #[.agg #[.pointer (some ⟨b, 0, none⟩), .int .i64 i], .slice K l.length e, .func (.func 21) #[] #[]] W fun e W' => e = .returned (.tuple #[]) ∧ BldTo b (s ++ rowT 0 l) W W' := by
  have HL := Lib.hid hl
  have HB := Lib.hid hB
  have HR := Lib.hid hR
  have HK := Lib.hid hK
  have Hm := Lib.hid hm
  have HH := Lib.hid H
  have Hroom := Lib.hid hroom
  have HW := Lib.hid (show HeldW W.heap.size b i (W.alloc (.cells #[.pointer (some ⟨b, 0, none⟩), .int .i64 i] 45)) from Held.at rfl)
  have Hbw := Lib.hid hB.lt
  have HPw := Lib.hid hP
  clear hP hl hB hR hK hm H hroom
  go_enter Tryd.func24, Tryd.ntmps24
  go_wp2_with fail
  go_loopw [10] (fun j wr => ∃ k, k ≤ l.length ∧ j = .int .i64 (k : Int) ∧ BldTo b (s ++ rowT 0 (l.take k)) W wr ∧ HeldW W.heap.size b i wr) (fun j _ => l.length - (intOf j).toNat)
  case atStart => exact ⟨0, Nat.zero_le _, rfl, by rw [List.take_zero, rowT, List.append_nil]; exact BldTo.of HB.out (one_al _ _), HW.out⟩
  case round =>
    obtain ⟨k, hk, rfl, hT, hW⟩ := hrel
    have HT := Lib.hid hT
    have HW2 := Lib.hid hW
    clear hT hW
    obtain ⟨q0, q1⟩ := HW2.out.al
    by_cases hlt : k < l.length
    · have hlA : (k : Int) < (l.length : Int) := by omega
      have h00 : (0 : Int) ≤ (k : Int) := by omega
      have hst := rowT_take l 0 k hlt
      have hln := rowT_len_take l 0 (k + 1)
      rw [Nat.zero_add] at hst
      have hmem := List.getElem_mem hlt
      have HC := Lib.hid (HH.out l[k] (Hm.out _ hmem))
      have HRk := Lib.hid (HR.out _ hmem)
      have HKk := Lib.hid (HK.out _ hmem)
      obtain ⟨g, off, A', c', B', d', K', e', rfl, _, hk', k0, k1, k2, k3, k4, k5, k6, k7, k8, k9⟩ := (HL.out.lo HT.out.bel).elem k hlt
      generalize l[k] = Y at *
      generalize rowT 0 (l.take k) = r at *
      have HS := Lib.hid hst
      have Hln := Lib.hid hln
      have HY := Lib.hid hk'.rd
      clear hk' hst hln hmem
      have HX := Lib.hid (show HeldN wr.heap.size _ _ _ _ _ _ _ _ _ _ (wr.alloc (boxN Y A' c' B' d' K' e')) from Held.at rfl)
      have HT1 := Lib.hid (HT.out.al (boxN Y A' c' B' d' K' e'))
      have HW1 := Lib.hid (HW2.out.below (one_al wr (boxN Y A' c' B' d' K' e')))
      have Hbk := Lib.hid (show b < wr.heap.size from HT.out.st.lt)
      have HYa := Lib.hid (HY.out.below (one_al wr (boxN Y A' c' B' d' K' e')))
      by_cases hk0 : k = 0
      · have hpos : ¬ (0 : Int) < (k : Int) := by omega
        have HS' := Lib.hid (show rowT 0 (l.take (k + 1)) = r ++ exprT Y by rw [HS.out, if_pos hk0]; rfl)
        clear hk0
        have hrm : (s ++ r).length + (exprT Y).length ≤ 70368744177664 := by
          have h1 := Hroom.out
          have h2 := Hln.out
          rw [HS'.out] at h2
          simp only [List.length_append] at h2 ⊢
          omega
        have Hrm := Lib.hid hrm
        clear hrm
        go_wp2_with fail
        refine (HC.out _ _ b (s ++ r) i HYa.out HRk.out HKk.out HT1.out.st (HPw.out.lo HT1.out.bel) Hrm.out).mono ?_
        rintro e1 w1 ⟨rfl, hT2⟩
        have HT2 := Lib.hid (HT1.out.trans hT2)
        have HW3 := Lib.hid (HeldW.to HW1.out Hbw.out hT2)
        clear hT2 k0 k1 k2 k3 k4 k5 k6 k7 k8 k9 q0 q1
        go_wp2_with fail
        exact ⟨⟨k + 1, by omega, by go_num, by rw [HS'.out, ← List.append_assoc]; exact HT2.out, HW3.out⟩, by simp [intOf]; omega⟩
      · have hpos : (0 : Int) < (k : Int) := by omega
        have HS' := Lib.hid (show rowT 0 (l.take (k + 1)) = r ++ ([44, 32] ++ exprT Y) by rw [HS.out, if_neg hk0])
        clear hk0
        have hrm : (s ++ r ++ [44, 32]).length + (exprT Y).length ≤ 70368744177664 := by
          have h1 := Hroom.out
          have h2 := Hln.out
          rw [HS'.out] at h2
          simp only [List.length_append] at h2 ⊢
          omega
        have Hrm := Lib.hid hrm
        clear hrm
        go_wp2_with fail
        refine (bld_String b (s ++ r) [44, 32] _ HT1.out.st (by have := Hrm.out; simp only [List.length_append] at this ⊢; omega)).mono ?_
        rintro e1 w1 ⟨rfl, hT2⟩
        have HT2 := Lib.hid (HT1.out.trans hT2)
        have HW3 := Lib.hid (HeldW.to HW1.out Hbw.out hT2)
        have HX3 := Lib.hid (HeldN.to HX.out Hbk.out hT2)
        have HYb := Lib.hid (HYa.out.lo hT2.bel)
        clear hT2 k0 k1 k2 k3 k4 k5 k6 k7 k8 k9 q0 q1
        obtain ⟨q0, q1⟩ := HW3.out.facts
        obtain ⟨x0, x1, x2, x3, x4, x5, x6, x7, x8, x9⟩ := HX3.out.facts
        go_wp2_with fail
        refine (HC.out _ _ b (s ++ r ++ [44, 32]) i HYb.out HRk.out HKk.out HT2.out.st (HPw.out.lo HT2.out.bel) Hrm.out).mono ?_
        rintro e1 w2 ⟨rfl, hT3⟩
        have HT3 := Lib.hid (HT2.out.trans hT3)
        have HW4 := Lib.hid (HeldW.to HW3.out Hbw.out hT3)
        clear hT3 x0 x1 x2 x3 x4 x5 x6 x7 x8 x9 q0 q1
        go_wp2_with fail
        exact ⟨⟨k + 1, by omega, by go_num, by rw [HS'.out, ← List.append_assoc, ← List.append_assoc]; exact HT3.out, HW4.out⟩, by simp [intOf]; omega⟩
    · have hlA : ¬ (k : Int) < (l.length : Int) := by omega
      have hkk : l.take k = l := List.take_of_length_le (by omega)
      rw [hkk] at HT
      clear hkk
      go_wp2_with fail
      go_end0
      exact ⟨rfl, HT.out⟩
theorem right_said {o : Nat} {n : N} (h : rightN o n = true) : saidS n = true ∧ shapeK n.kind (n.kids.map N.kind) = true := by
  rw [rightN_eq] at h
  simp only [Bool.and_eq_true] at h
  exact ⟨h.2.2.1, h.2.2.2.1⟩
theorem right_kids {o : Nat} {n : N} (h : rightN o n = true) : ∀ x ∈ n.kids, ∃ o, rightN o x = true := by
  rw [rightN_eq] at h
  simp only [Bool.and_eq_true] at h
  intro x hx
  obtain ⟨j, hj, rfl⟩ := List.mem_iff_getElem.1 hx
  exact ⟨_, (rightNs_at hj h.2.2.2.2.2).2⟩
set_option maxRecDepth 20000 in
set_option maxHeartbeats 4000000 in
theorem w_part (m : Nat) (H : ExprOk m) (n : N) (j : Nat) (hj : j < n.kids.length) (hm : SizeOf.sizeOf n.kids[j] < m) (hR : ∃ o, rightN o n.kids[j] = true) (hK : exprK n.kids[j].kind = true ∨ n.kids[j].kind = 20) (v : Value) (W : World) (b : Nat) (s : List UInt8) (i : Int) (hv : RdN (fun k => k < b) W v n) (hB : BldSt b s W) (hP : PowAt b W) (hroom : s.length + (inBr (wrapS n j n.kids[j]) (exprT n.kids[j])).length ≤ 70368744177664) :
    Calls Tryd.prog 42 #[.agg #[.pointer (some ⟨b, 0, none⟩), .int .i64 i], v, .int .i64 (j : Int)] W fun e W' => e = .returned (.tuple #[]) ∧ BldTo b (s ++ inBr (wrapS n j n.kids[j]) (exprT n.kids[j])) W W' := by
  obtain ⟨A, c, B, d, K, e, rfl, hn⟩ := hv.form
  have hlen := hn.len
  have hlA : (j : Int) < (n.kids.length : Int) := by omega
  have h00 : (0 : Int) ≤ (j : Int) := by omega
  have HWr := Lib.hid (fun W hv => print_wrapped n j hj (valN n A c B d K e) (fun k => k < b) W hv)
  have HC := Lib.hid (H n.kids[j] hm)
  have HRk := Lib.hid hR
  have HKk := Lib.hid hK
  have HEl := Lib.hid (fun (W' : World) (hb : Below b W W') => (hn.kids.lo hb).elem j hj)
  have HB := Lib.hid hB
  have HPw := Lib.hid hP
  have HV := Lib.hid hn.rd
  have Hroom := Lib.hid hroom
  have Hbw := Lib.hid hB.lt
  have HW := Lib.hid (show HeldW W.heap.size b i ((W.alloc (.cells #[.pointer (some ⟨b, 0, none⟩), .int .i64 i] 45)).alloc (boxN n A c B d K e)) from Held.below (Held.at rfl) (one_al _ _))
  have HX := Lib.hid (show HeldN (W.heap.size + 1) _ _ _ _ _ _ _ _ _ _ ((W.alloc (.cells #[.pointer (some ⟨b, 0, none⟩), .int .i64 i] 45)).alloc (boxN n A c B d K e)) from Held.at (by simp))
  clear hv hn hP hB hR hK H hm hroom
  generalize wrapS n j n.kids[j] = wb at *
  generalize n.kids[j] = Y at *
  clear hj
  cases wb with
  | false =>
    rw [show inBr false (exprT Y) = exprT Y from rfl] at *
    go_enter Tryd.func42, Tryd.ntmps42
    go_wp2_with fail
    refine (HWr.out _ (HV.out.below (two_al _ _ _))).mono ?_
    rintro e1 w1 ⟨rfl, hb⟩
    have HBl := Lib.hid (bthen (two_al _ _ _) hb)
    have HW1 := Lib.hid (HW.out.below hb)
    have HX1 := Lib.hid (HX.out.below hb)
    have HT1 := Lib.hid (BldTo.of HB.out HBl.out)
    clear hb HWr
    obtain ⟨q0, q1⟩ := HeldW.facts HW1.out
    obtain ⟨x0, x1, x2, x3, x4, x5, x6, x7, x8, x9⟩ := HeldN.facts HX1.out
    obtain ⟨g, off, A', c', B', d', K', e', rfl, _, hk', k0, k1, k2, k3, k4, k5, k6, k7, k8, k9⟩ := HEl.out w1 HT1.out.bel
    have HY := Lib.hid hk'.rd
    clear hk'
    go_upto_region 2 with fail
    go_region_with (first
      | (go_at_call 21; refine (HC.out _ _ b s i (HY.out.below (drew_b _)) HRk.out HKk.out (HT1.out.st.below (drew_b _)) ((HPw.out.lo HT1.out.bel).lo (Below.drew (Below.refl _ _))) Hroom.out).mono ?_; rintro e1 w2 ⟨rfl, hT⟩; have HT2 := Lib.hid ((HT1.out.more (drew_b _)).trans hT); clear hT)
      | fail)
    all_goals go_wp2_with fail
    all_goals refine bodyPost_ret (results_none rfl _ _ _) rfl ?_
    all_goals exact ⟨rfl, HT2.out⟩
  | true =>
    rw [show inBr true (exprT Y) = [40] ++ exprT Y ++ [41] from rfl] at *
    go_enter Tryd.func42, Tryd.ntmps42
    go_wp2_with fail
    refine (HWr.out _ (HV.out.below (two_al _ _ _))).mono ?_
    rintro e1 w1 ⟨rfl, hb⟩
    have HBl := Lib.hid (bthen (two_al _ _ _) hb)
    have HW1 := Lib.hid (HW.out.below hb)
    have HX1 := Lib.hid (HX.out.below hb)
    have HT1 := Lib.hid (BldTo.of HB.out HBl.out)
    clear hb HWr
    obtain ⟨q0, q1⟩ := HeldW.facts HW1.out
    obtain ⟨x0, x1, x2, x3, x4, x5, x6, x7, x8, x9⟩ := HeldN.facts HX1.out
    have Hrm := Lib.hid (show s.length + (1 + (exprT Y).length + 1) ≤ 70368744177664 by have := Hroom.out; simp only [List.length_append, List.length_cons, List.length_nil] at this; omega)
    go_wp2_with fail
    refine (bld_String b s [40] _ HT1.out.st (by have := Hrm.out; simp; omega)).mono ?_
    rintro e1 w2 ⟨rfl, hT⟩
    have HT2 := Lib.hid (HT1.out.trans hT)
    have HW2 := Lib.hid (HeldW.to HW1.out Hbw.out hT)
    have HX2 := Lib.hid (HeldN.to HX1.out (Nat.lt_succ_of_lt Hbw.out) hT)
    clear hT q0 q1 x0 x1 x2 x3 x4 x5 x6 x7 x8 x9
    obtain ⟨q0, q1⟩ := HeldW.facts HW2.out
    obtain ⟨x0, x1, x2, x3, x4, x5, x6, x7, x8, x9⟩ := HeldN.facts HX2.out
    obtain ⟨g, off, A', c', B', d', K', e', rfl, _, hk', k0, k1, k2, k3, k4, k5, k6, k7, k8, k9⟩ := HEl.out w2 HT2.out.bel
    have HY := Lib.hid hk'.rd
    clear hk'
    go_upto_region 4 with fail
    go_region_with (first
      | (go_at_call 21; refine (HC.out _ _ b (s ++ [40]) i (HY.out.below (drew_b _)) HRk.out HKk.out (HT2.out.st.below (drew_b _)) ((HPw.out.lo HT2.out.bel).lo (Below.drew (Below.refl _ _))) (by have := Hrm.out; simp; omega)).mono ?_; rintro e1 w3 ⟨rfl, hT⟩; have hT' := BldTo.trans (BldTo.of HT2.out.st (drew_b _)) hT; have HT3 := Lib.hid (HT2.out.trans hT'); have HW3 := Lib.hid (HeldW.to HW2.out Hbw.out hT'); have HX3 := Lib.hid (HeldN.to HX2.out (Nat.lt_succ_of_lt Hbw.out) hT'); clear hT hT')
      | fail)
    all_goals clear q0 q1 x0 x1 x2 x3 x4 x5 x6 x7 x8 x9 k0 k1 k2 k3 k4 k5 k6 k7 k8 k9
    all_goals obtain ⟨q0, q1⟩ := HeldW.facts HW3.out
    all_goals go_wp2_with fail
    all_goals refine (bld_String b (s ++ [40] ++ exprT Y) [41] _ HT3.out.st (by have := Hrm.out; simp; omega)).mono ?_
    all_goals rintro e1 w4 ⟨rfl, hT⟩
    all_goals have HT4 := Lib.hid (HT3.out.trans hT)
    all_goals clear hT q0 q1
    all_goals go_wp2_with fail
    all_goals go_end0
    all_goals exact ⟨rfl, by have := HT4.out; simpa using this⟩
end Go.Proofs.YthlfeiiolafonaaDoor
