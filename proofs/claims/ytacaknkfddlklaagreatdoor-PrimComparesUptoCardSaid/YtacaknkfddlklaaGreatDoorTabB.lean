/- The map of functions that prim.table makes: what its block is good for. Contracts of the makers of prim.table's functions: ints, divide, order. What prim.table's map holds: its functions. Contract of prim.table. Contracts of prim's small functions. Contract of prim.kinds at two values. -/
import Derived.Test.YtacaknkfddlklaaGreatDoorForm
import Derived.Maps.Own
import Derived.Laws.EntriesVeiled
import Derived.Laws.ResultCell
set_option linter.unusedVariables false
set_option linter.unusedSimpArgs false
namespace Go.Proofs.YtacaknkfddlklaaGreatDoor
open Go.RowKit Go.IntWalk Go.ChangeMaps Go.MapKept

/-- Block b is a map of n entries under the keys 10, 11, ..; the entry at key 10+i has G (10+i) of its value. -/
def Tab (w : World) (G : Nat → Value → Prop) (b n : Nat) : Prop :=
  ∃ es clock, w.heap[b]? = some (.map es clock) ∧ es.size = n ∧ ∀ i, i < n → ∃ e, es.toList[i]? = some e ∧ e.key = .int .i64 ((10 + i : Nat) : Int) ∧ G (10 + i) e.val

theorem wf64 {a : Int} (h0 : 0 ≤ a) (h1 : a ≤ 2000) : (Lit.int .i64 a).wf = true := by
  have h2 : IntKind.i64.min = -9223372036854775808 := by decide
  have h3 : IntKind.i64.max = 9223372036854775807 := by decide
  simp [Lit.wf, h2, h3]
  omega
theorem Tab.lt {w : World} {G : Nat → Value → Prop} {b n : Nat} (h : Tab w G b n) : b < w.heap.size := by
  obtain ⟨es, c, hb, _⟩ := h
  exact (Array.getElem?_eq_some_iff.1 hb).1
theorem Tab.made (w : World) (G : Nat → Value → Prop) : Tab (w.alloc (.map #[] 0)) G w.heap.size 0 :=
  ⟨#[], 0, (MapKept.heap_alloc w _).1, rfl, fun i hi => absurd hi (Nat.not_lt_zero _)⟩
theorem Tab.imp {w w' : World} {G G' : Nat → Value → Prop} {b n : Nat} (h : Tab w G b n) (hh : w'.heap[b]? = w.heap[b]?) (hG : ∀ k v, G k v → G' k v) : Tab w' G' b n := by
  obtain ⟨es, c, hb, hs, he⟩ := h
  refine ⟨es, c, hh.trans hb, hs, fun i hi => ?_⟩
  obtain ⟨e, h1, h2, h3⟩ := he i hi
  exact ⟨e, h1, h2, hG _ _ h3⟩
theorem Tab.keys {P : Program} {k : TypeId} (hk : P.underlying k = some (.int .i64)) {w : World} {G : Nat → Value → Prop} {b n : Nat} (hn : n < 1000) {es : Array MapEntry} (hs : es.size = n)
    (he : ∀ i, i < n → ∃ e, es.toList[i]? = some e ∧ e.key = .int .i64 ((10 + i : Nat) : Int) ∧ G (10 + i) e.val) : ∀ e ∈ es.toList, ∃ i, i < n ∧ es.toList[i]? = some e ∧ e.key = .int .i64 ((10 + i : Nat) : Int) ∧ keyOf P k e.key = some (.int .i64 ((10 + i : Nat) : Int)) := by
  intro e hm
  obtain ⟨i, hi⟩ := List.getElem?_of_mem hm
  have hlt : i < n := by
    have := (List.getElem?_eq_some_iff.1 hi).1
    simpa [hs] using this
  obtain ⟨e', h1, h2, h3⟩ := he i hlt
  rw [hi] at h1
  cases h1
  refine ⟨i, hlt, hi, h2, ?_⟩
  rw [h2]
  exact Maps.keyOf_int_mk hk (wf64 (by omega) (by omega))
theorem Tab.update {P : Program} {t k e : TypeId} (hk : P.underlying k = some (.int .i64)) (ht : P.underlying t = some (.map k e)) {w : World} {G : Nat → Value → Prop} {b n : Nat} (h : Tab w G b n) (hn : n < 1000) {z : Int} (hz : z = ((10 + n : Nat) : Int)) {v : Value} (hv : G (10 + n) v) :
    ∃ w', (Instr.mapUpdate t (.map (some b)) (.int .i64 z) v).run P w = .ok () w' ∧ Tab w' G b (n + 1) ∧ w.grownBy w' (some b) := by
  obtain ⟨es, c, hb, hs, he⟩ := h
  have K := Maps.int_keyed (q := .i64) hk
  have hkey : keyOf P k (.int .i64 z) = some (.int .i64 z) := Maps.keyOf_int_mk hk (wf64 (by omega) (by omega))
  have hks := Tab.keys (w := w) (b := b) hk hn hs he
  rcases K.find w hkey es.toList (fun e hm => by obtain ⟨i, _, _, _, h⟩ := hks e hm; exact ⟨_, h⟩) with ⟨h1, h2⟩ | ⟨j, e0, h1, h2, h3⟩
  · refine ⟨setBlock w b (.map (es.push ⟨.int .i64 z, v, c⟩) (c + 1)), ?_, ⟨_, _, heap_setBlock_same hb _, by simp [hs], fun i hi => ?_⟩, ⟨rfl, rfl, rfl, by simp [setBlock], fun i _ hi => heap_setBlock_other hb _ (fun e => hi (by rw [e]))⟩⟩
    · simp [Instr.mapUpdate, run_underlying ht, MapKept.run_getObj_map hb, K.check w false hkey, h1, MapKept.run_setObj_map _ hb, Result.andThen, setBlock]
    · by_cases hin : i < n
      · obtain ⟨e, q1, q2, q3⟩ := he i hin
        refine ⟨e, ?_, q2, q3⟩
        rw [Array.toList_push, List.getElem?_append_left (by simpa [hs] using hin)]
        exact q1
      · have : i = n := by omega
        subst this
        refine ⟨⟨.int .i64 z, v, c⟩, by rw [Array.toList_push, List.getElem?_append_right (by simp [hs])]; simp [hs], by rw [hz], hv⟩
  · obtain ⟨i, hi, hg, hkk, _⟩ := hks e0 (List.mem_of_getElem? h2)
    rw [hkk] at h3
    injection h3 with _ h3
    omega
theorem Tab.lookup {P : Program} {t k e : TypeId} (hk : P.underlying k = some (.int .i64)) (ht : P.underlying t = some (.map k e)) {w : World} {G : Nat → Value → Prop} {b n : Nat} (h : Tab w G b n) (hn : n < 1000) (i : Nat) (hi : i < n) {z : Int} (hz : z = ((10 + i : Nat) : Int)) :
    ∃ v, (Instr.lookup t (.map (some b)) (.int .i64 z) false).run P w = .ok v w ∧ G (10 + i) v := by
  obtain ⟨es, c, hb, hs, he⟩ := h
  have K := Maps.int_keyed (q := .i64) hk
  have hkey : keyOf P k (.int .i64 z) = some (.int .i64 z) := Maps.keyOf_int_mk hk (wf64 (by omega) (by omega))
  have hks := Tab.keys (w := w) (b := b) hk hn hs he
  obtain ⟨e1, q1, q2, q3⟩ := he i hi
  rcases K.find w hkey es.toList (fun e hm => by obtain ⟨i, _, _, _, h⟩ := hks e hm; exact ⟨_, h⟩) with ⟨h1, h2⟩ | ⟨j, e0, h1, h2, h3⟩
  · exact absurd (q2.trans (by rw [hz])) (h2 e1 (List.mem_of_getElem? q1))
  · obtain ⟨i', hi', hg, hkk, _⟩ := hks e0 (List.mem_of_getElem? h2)
    rw [hkk] at h3
    injection h3 with _ h3
    have : i' = i := by omega
    rw [this, q1] at hg
    cases hg
    exact ⟨e1.val, by simp [Instr.lookup, run_underlying ht, MapKept.run_getObj_map hb, K.check w _ hkey, h1, Result.andThen], q3⟩
end Go.Proofs.YtacaknkfddlklaaGreatDoor
namespace Go.Proofs.YtacaknkfddlklaaGreatDoor
open Go.RowKit Go.IntWalk

/-- a closure over the box bx -/
abbrev clos (f : Nat) (bx : Nat) : Value := .func (.func f) #[] #[.pointer (some ⟨bx, 0, none⟩)]
set_option maxRecDepth 20000 in
set_option maxHeartbeats 1000000 in
theorem prim_ints (w : World) (fn : Fn) (a b : Array Value) :
    Calls Tryz.prog 47 #[.func fn a b] w fun e w' => e = .returned (clos 103 w.heap.size) ∧ w' = w.alloc (.cells #[.func fn a b] 74) := by
  have hmf : ∀ (fn : Fn) (first cap : Array Value) (w : World), (Instr.makeFunc fn first cap).run Tryz.prog w = .ok (.func fn first cap) w := fun _ _ _ _ => rfl
  go_enter Tryz.func47, Tryz.ntmps47
  go_wp2
  go_ret
  exact ⟨rfl, rfl⟩
set_option maxRecDepth 20000 in
set_option maxHeartbeats 1000000 in
theorem prim_order (w : World) (fn : Fn) (a b : Array Value) :
    Calls Tryz.prog 60 #[.func fn a b] w fun e w' => e = .returned (clos 106 w.heap.size) ∧ w' = w.alloc (.cells #[.func fn a b] 36) := by
  have hmf : ∀ (fn : Fn) (first cap : Array Value) (w : World), (Instr.makeFunc fn first cap).run Tryz.prog w = .ok (.func fn first cap) w := fun _ _ _ _ => rfl
  go_enter Tryz.func60, Tryz.ntmps60
  go_wp2
  go_ret
  exact ⟨rfl, rfl⟩
set_option maxRecDepth 20000 in
set_option maxHeartbeats 1000000 in
theorem prim_divide (w : World) (fn : Fn) (a b : Array Value) :
    Calls Tryz.prog 51 #[.func fn a b] w fun e w' => e = .returned (clos 103 (w.heap.size + 1)) ∧ w' = (w.alloc (.cells #[.func fn a b] 76)).alloc (.cells #[clos 104 w.heap.size] 74) := by
  have hmf : ∀ (fn : Fn) (first cap : Array Value) (w : World), (Instr.makeFunc fn first cap).run Tryz.prog w = .ok (.func fn first cap) w := fun _ _ _ _ => rfl
  go_enter Tryz.func51, Tryz.ntmps51
  go_wp2_with fail
  refine (prim_ints _ _ _ _).mono ?_
  rintro e w1 ⟨rfl, rfl⟩
  go_wp2
  go_ret
  exact ⟨rfl, rfl⟩
end Go.Proofs.YtacaknkfddlklaaGreatDoor
namespace Go.Proofs.YtacaknkfddlklaaGreatDoor
open Go.RowKit Go.IntWalk Go.ChangeMaps Go.MapKept

def plainF : Nat → Option Nat
  | 10 => some 46 | 15 => some 54 | 16 => some 55 | 17 => some 57 | 18 => some 59
  | 23 => some 65 | 24 => some 67 | 25 => some 68 | 26 => some 69 | 27 => some 70
  | 28 => some 72 | 29 => some 73 | 30 => some 74 | 31 => some 75 | 32 => some 76
  | 33 => some 77 | 34 => some 78 | 35 => some 79 | 36 => some 80 | 37 => some 81
  | _ => none
def intsF : Nat → Option Nat
  | 11 => some 48 | 12 => some 50 | _ => none
def divF : Nat → Option Nat
  | 13 => some 52 | 14 => some 53 | _ => none
def ordF : Nat → Option Nat
  | 19 => some 61 | 20 => some 62 | 21 => some 63 | 22 => some 64 | _ => none
/-- the value under k in the world w; b: the map's own block -/
def Good (w : World) (b k : Nat) (v : Value) : Prop :=
  (∃ f, plainF k = some f ∧ v = .func (.func f) #[] #[]) ∨
  (∃ f p, intsF k = some f ∧ v = clos 103 p ∧ p ≠ b ∧ w.cell? ⟨p, 0, none⟩ = some (.func (.func f) #[] #[])) ∨
  (∃ f p q, divF k = some f ∧ v = clos 103 p ∧ p ≠ b ∧ q ≠ b ∧ w.cell? ⟨p, 0, none⟩ = some (clos 104 q) ∧ w.cell? ⟨q, 0, none⟩ = some (.func (.func f) #[] #[])) ∨
  (∃ f p, ordF k = some f ∧ v = clos 106 p ∧ p ≠ b ∧ w.cell? ⟨p, 0, none⟩ = some (.func (.func f) #[] #[]))
theorem Good.keep {w w' : World} {b : Nat} (hc : ∀ p v, p ≠ b → w.cell? ⟨p, 0, none⟩ = some v → w'.cell? ⟨p, 0, none⟩ = some v) (k : Nat) (v : Value) (h : Good w b k v) : Good w' b k v := by
  rcases h with h | ⟨f, p, h1, h2, h3, h4⟩ | ⟨f, p, q, h1, h2, h3, h4, h5, h6⟩ | ⟨f, p, h1, h2, h3, h4⟩
  · exact Or.inl h
  · exact Or.inr (Or.inl ⟨f, p, h1, h2, h3, hc _ _ h3 h4⟩)
  · exact Or.inr (Or.inr (Or.inl ⟨f, p, q, h1, h2, h3, h4, hc _ _ h3 h5, hc _ _ h4 h6⟩))
  · exact Or.inr (Or.inr (Or.inr ⟨f, p, h1, h2, h3, hc _ _ h3 h4⟩))
abbrev TabG (w : World) (b n : Nat) : Prop := Tab w (Good w b) b n
theorem TabG.alloc {w : World} {b n : Nat} (h : TabG w b n) (X : Obj) : TabG (w.alloc X) b n :=
  have hb : Below w.heap.size w (w.alloc X) := (Below.refl _ _).alloc (Nat.le_refl _) X
  h.imp ((MapKept.heap_alloc w X).2 _ h.lt) (Good.keep (fun p v _ hc => bcell hb hc))
theorem TabG.made (w : World) : TabG (w.alloc (.map #[] 0)) w.heap.size 0 := Tab.made w _
theorem TabG.update {w : World} {b n : Nat} (h : TabG w b n) (hn : n < 1000) {z : Int} (hz : z = ((10 + n : Nat) : Int)) {v : Value} (hv : Good w b (10 + n) v) :
    ∃ w', (Instr.mapUpdate 52 (.map (some b)) (.int .i64 z) v).run Tryz.prog w = .ok () w' ∧ TabG w' b (n + 1) ∧ w.grownBy w' (some b) := by
  obtain ⟨w', h1, h2, h3⟩ := Tab.update (P := Tryz.prog) (k := 3) (e := 51) (t := 52) Tryz.underlying3 Tryz.underlying52 h hn hz hv
  exact ⟨w', h1, h2.imp rfl (Good.keep (fun p v hp hc => h3.cell hc (by simpa using hp))), h3⟩
/-- a store into the table, at the operation -/
theorem wpList_table {w : World} {ops : Array Oper} {rest : List Oper} {o : Oper} {a : Act} {Q : Exit → Act → World → Prop}
    (hg : o.guard = none) (m x y : Operand) (hop : o.op = Op.insert 52 m x y) (b n : Nat) (z : Int) (v : Value) (hm : a.eval m = .map (some b)) (hx : a.eval x = .int .i64 z) (hv : a.eval y = v)
    (h : TabG w b n) (hn : n < 1000) (hz : z = ((10 + n : Nat) : Int)) (hgood : Good w b (10 + n) v)
    (hK : ∀ w', TabG w' b (n + 1) → w.grownBy w' (some b) → wpList Tryz.prog ops Q rest (a.put o.dst undef) w') :
    wpList Tryz.prog ops Q (o :: rest) a w := by
  refine wpList_plain hg fun K' hK' => ?_
  obtain ⟨w', hrun, r1, r2⟩ := h.update hn hz hgood
  unfold Oper.wp
  simp [execOp, hop, hm, hx, hv, hrun, Result.andThen]
  exact hK' _ _ (hK w' r1 r2)
end Go.Proofs.YtacaknkfddlklaaGreatDoor
namespace Go.Proofs.YtacaknkfddlklaaGreatDoor
open Go.RowKit Go.IntWalk Go.ChangeMaps Go.MapKept

/-- n entries have been stored -/
def Tst (w0 : World) (b n : Nat) (w : World) : Prop := TabG w b n ∧ Below w0.heap.size w0 w ∧ w0.heap.size ≤ b ∧ b < w.heap.size
theorem Tst.alloc {w0 w : World} {b n : Nat} (h : Tst w0 b n w) (X : Obj) : Tst w0 b n (w.alloc X) :=
  ⟨h.1.alloc X, h.2.1.alloc h.2.1.size X, h.2.2.1, by simp; exact Nat.lt_succ_of_lt h.2.2.2⟩
theorem Tst.grown {w0 w w' : World} {b n m : Nat} (h : Tst w0 b n w) (ht : TabG w' b m) (hg : w.grownBy w' (some b)) : Tst w0 b m w' :=
  ⟨ht, ⟨hg.os.trans h.2.1.os, hg.tape.trans h.2.1.tape, hg.output.trans h.2.1.output, Nat.le_trans h.2.1.size hg.size, fun k hk => (hg.block k (Nat.lt_of_lt_of_le hk h.2.1.size) (by have := h.2.2.1; intro e; injection e with e; omega)).trans (h.2.1.block k hk)⟩, h.2.2.1, Nat.lt_of_lt_of_le h.2.2.2 hg.size⟩
theorem box1 (w : World) (v : Value) (t : TypeId) : (w.alloc (.cells #[v] t)).cell? ⟨w.heap.size, 0, none⟩ = some v := World.cell?_alloc_at _ _ _ _ rfl
theorem box2 (w : World) (X : Obj) (v : Value) (t : TypeId) : ((w.alloc X).alloc (.cells #[v] t)).cell? ⟨w.heap.size + 1, 0, none⟩ = some v := by
  have h : (w.alloc X).heap.size = w.heap.size + 1 := by simp
  rw [← h]; exact box1 _ _ _
set_option maxRecDepth 20000 in
set_option maxHeartbeats 4000000 in
theorem prim_table (w : World) :
    Calls Tryz.prog 30 #[] w fun e w' => ∃ b, e = .returned (.map (some b)) ∧ Tst w b 28 w' := by
  have hmm : ∀ (w : World), (Instr.makeMap 52 none).run Tryz.prog w = .ok (.map (some w.heap.size)) (w.alloc (.map #[] 0)) := fun w => rfl
  have H0 : Hid (Tst w w.heap.size 0 (w.alloc (.map #[] 0))) := ⟨TabG.made w, (Below.refl _ _).alloc (Nat.le_refl _) _, Nat.le_refl _, by simp⟩

  go_enter Tryz.func30, Tryz.ntmps30
  go_wp2_with (first | (refine wpList_table rfl _ _ _ rfl w.heap.size 0 10 _ rfl rfl rfl H0.out.1 (by decide) rfl (Or.inl ⟨_, rfl, rfl⟩) ?_) | fail)
  intro w1 a1 g1
  have H1 := Lib.hid (H0.out.grown a1 g1)
  clear a1 g1 H0
  go_wp2_with fail
  refine (prim_ints _ _ _ _).mono ?_
  rintro e u1 ⟨rfl, rfl⟩
  have J1 := Lib.hid (H1.out.alloc (.cells #[.func (.func 48) #[] #[]] 74))
  have C1 : Hid (w1.heap.size ≠ w.heap.size) := by show _ ≠ _; have := H1.out.2.2.2; omega
  go_wp2_with (first | (refine wpList_table rfl _ _ _ rfl w.heap.size 1 11 _ rfl rfl rfl J1.out.1 (by decide) rfl (Or.inr (Or.inl ⟨_, _, rfl, rfl, C1.out, box1 _ _ _⟩)) ?_) | fail)
  intro w2 a2 g2
  have H2 := Lib.hid (J1.out.grown a2 g2)
  clear a2 g2 J1 C1
  go_wp2_with fail
  refine (prim_ints _ _ _ _).mono ?_
  rintro e u2 ⟨rfl, rfl⟩
  have J2 := Lib.hid (H2.out.alloc (.cells #[.func (.func 50) #[] #[]] 74))
  have C2 : Hid (w2.heap.size ≠ w.heap.size) := by show _ ≠ _; have := H2.out.2.2.2; omega
  go_wp2_with (first | (refine wpList_table rfl _ _ _ rfl w.heap.size 2 12 _ rfl rfl rfl J2.out.1 (by decide) rfl (Or.inr (Or.inl ⟨_, _, rfl, rfl, C2.out, box1 _ _ _⟩)) ?_) | fail)
  intro w3 a3 g3
  have H3 := Lib.hid (J2.out.grown a3 g3)
  clear a3 g3 J2 C2
  go_wp2_with fail
  refine (prim_divide _ _ _ _).mono ?_
  rintro e u3 ⟨rfl, rfl⟩
  have J3 := Lib.hid ((H3.out.alloc (.cells #[.func (.func 52) #[] #[]] 76)).alloc (.cells #[clos 104 w3.heap.size] 74))
  have C3 : Hid (w3.heap.size ≠ w.heap.size ∧ w3.heap.size + 1 ≠ w.heap.size) := by show _ ∧ _; have := H3.out.2.2.2; constructor <;> omega
  go_wp2_with (first | (refine wpList_table rfl _ _ _ rfl w.heap.size 3 13 _ rfl rfl rfl J3.out.1 (by decide) rfl (Or.inr (Or.inr (Or.inl ⟨_, _, _, rfl, rfl, C3.out.2, C3.out.1, box2 _ _ _ _, bcell ((Below.refl _ _).alloc (Nat.le_refl _) _) (box1 _ _ _)⟩))) ?_) | fail)
  intro w4 a4 g4
  have H4 := Lib.hid (J3.out.grown a4 g4)
  clear a4 g4 J3 C3
  go_wp2_with fail
  refine (prim_divide _ _ _ _).mono ?_
  rintro e u4 ⟨rfl, rfl⟩
  have J4 := Lib.hid ((H4.out.alloc (.cells #[.func (.func 53) #[] #[]] 76)).alloc (.cells #[clos 104 w4.heap.size] 74))
  have C4 : Hid (w4.heap.size ≠ w.heap.size ∧ w4.heap.size + 1 ≠ w.heap.size) := by show _ ∧ _; have := H4.out.2.2.2; constructor <;> omega
  go_wp2_with (first | (refine wpList_table rfl _ _ _ rfl w.heap.size 4 14 _ rfl rfl rfl J4.out.1 (by decide) rfl (Or.inr (Or.inr (Or.inl ⟨_, _, _, rfl, rfl, C4.out.2, C4.out.1, box2 _ _ _ _, bcell ((Below.refl _ _).alloc (Nat.le_refl _) _) (box1 _ _ _)⟩))) ?_) | fail)
  intro w5 a5 g5
  have H5 := Lib.hid (J4.out.grown a5 g5)
  clear a5 g5 J4 C4
  go_wp2_with (first | (refine wpList_table rfl _ _ _ rfl w.heap.size 5 15 _ rfl rfl rfl H5.out.1 (by decide) rfl (Or.inl ⟨_, rfl, rfl⟩) ?_) | fail)
  intro w6 a6 g6
  have H6 := Lib.hid (H5.out.grown a6 g6)
  clear a6 g6 H5
  go_wp2_with (first | (refine wpList_table rfl _ _ _ rfl w.heap.size 6 16 _ rfl rfl rfl H6.out.1 (by decide) rfl (Or.inl ⟨_, rfl, rfl⟩) ?_) | fail)
  intro w7 a7 g7
  have H7 := Lib.hid (H6.out.grown a7 g7)
  clear a7 g7 H6
  go_wp2_with (first | (refine wpList_table rfl _ _ _ rfl w.heap.size 7 17 _ rfl rfl rfl H7.out.1 (by decide) rfl (Or.inl ⟨_, rfl, rfl⟩) ?_) | fail)
  intro w8 a8 g8
  have H8 := Lib.hid (H7.out.grown a8 g8)
  clear a8 g8 H7
  go_wp2_with (first | (refine wpList_table rfl _ _ _ rfl w.heap.size 8 18 _ rfl rfl rfl H8.out.1 (by decide) rfl (Or.inl ⟨_, rfl, rfl⟩) ?_) | fail)
  intro w9 a9 g9
  have H9 := Lib.hid (H8.out.grown a9 g9)
  clear a9 g9 H8
  go_wp2_with fail
  refine (prim_order _ _ _ _).mono ?_
  rintro e u9 ⟨rfl, rfl⟩
  have J9 := Lib.hid (H9.out.alloc (.cells #[.func (.func 61) #[] #[]] 36))
  have C9 : Hid (w9.heap.size ≠ w.heap.size) := by show _ ≠ _; have := H9.out.2.2.2; omega
  go_wp2_with (first | (refine wpList_table rfl _ _ _ rfl w.heap.size 9 19 _ rfl rfl rfl J9.out.1 (by decide) rfl (Or.inr (Or.inr (Or.inr ⟨_, _, rfl, rfl, C9.out, box1 _ _ _⟩))) ?_) | fail)
  intro w10 a10 g10
  have H10 := Lib.hid (J9.out.grown a10 g10)
  clear a10 g10 J9 C9
  go_wp2_with fail
  refine (prim_order _ _ _ _).mono ?_
  rintro e u10 ⟨rfl, rfl⟩
  have J10 := Lib.hid (H10.out.alloc (.cells #[.func (.func 62) #[] #[]] 36))
  have C10 : Hid (w10.heap.size ≠ w.heap.size) := by show _ ≠ _; have := H10.out.2.2.2; omega
  go_wp2_with (first | (refine wpList_table rfl _ _ _ rfl w.heap.size 10 20 _ rfl rfl rfl J10.out.1 (by decide) rfl (Or.inr (Or.inr (Or.inr ⟨_, _, rfl, rfl, C10.out, box1 _ _ _⟩))) ?_) | fail)
  intro w11 a11 g11
  have H11 := Lib.hid (J10.out.grown a11 g11)
  clear a11 g11 J10 C10
  go_wp2_with fail
  refine (prim_order _ _ _ _).mono ?_
  rintro e u11 ⟨rfl, rfl⟩
  have J11 := Lib.hid (H11.out.alloc (.cells #[.func (.func 63) #[] #[]] 36))
  have C11 : Hid (w11.heap.size ≠ w.heap.size) := by show _ ≠ _; have := H11.out.2.2.2; omega
  go_wp2_with (first | (refine wpList_table rfl _ _ _ rfl w.heap.size 11 21 _ rfl rfl rfl J11.out.1 (by decide) rfl (Or.inr (Or.inr (Or.inr ⟨_, _, rfl, rfl, C11.out, box1 _ _ _⟩))) ?_) | fail)
  intro w12 a12 g12
  have H12 := Lib.hid (J11.out.grown a12 g12)
  clear a12 g12 J11 C11
  go_wp2_with fail
  refine (prim_order _ _ _ _).mono ?_
  rintro e u12 ⟨rfl, rfl⟩
  have J12 := Lib.hid (H12.out.alloc (.cells #[.func (.func 64) #[] #[]] 36))
  have C12 : Hid (w12.heap.size ≠ w.heap.size) := by show _ ≠ _; have := H12.out.2.2.2; omega
  go_wp2_with (first | (refine wpList_table rfl _ _ _ rfl w.heap.size 12 22 _ rfl rfl rfl J12.out.1 (by decide) rfl (Or.inr (Or.inr (Or.inr ⟨_, _, rfl, rfl, C12.out, box1 _ _ _⟩))) ?_) | fail)
  intro w13 a13 g13
  have H13 := Lib.hid (J12.out.grown a13 g13)
  clear a13 g13 J12 C12
  go_wp2_with (first | (refine wpList_table rfl _ _ _ rfl w.heap.size 13 23 _ rfl rfl rfl H13.out.1 (by decide) rfl (Or.inl ⟨_, rfl, rfl⟩) ?_) | fail)
  intro w14 a14 g14
  have H14 := Lib.hid (H13.out.grown a14 g14)
  clear a14 g14 H13
  go_wp2_with (first | (refine wpList_table rfl _ _ _ rfl w.heap.size 14 24 _ rfl rfl rfl H14.out.1 (by decide) rfl (Or.inl ⟨_, rfl, rfl⟩) ?_) | fail)
  intro w15 a15 g15
  have H15 := Lib.hid (H14.out.grown a15 g15)
  clear a15 g15 H14
  go_wp2_with (first | (refine wpList_table rfl _ _ _ rfl w.heap.size 15 25 _ rfl rfl rfl H15.out.1 (by decide) rfl (Or.inl ⟨_, rfl, rfl⟩) ?_) | fail)
  intro w16 a16 g16
  have H16 := Lib.hid (H15.out.grown a16 g16)
  clear a16 g16 H15
  go_wp2_with (first | (refine wpList_table rfl _ _ _ rfl w.heap.size 16 26 _ rfl rfl rfl H16.out.1 (by decide) rfl (Or.inl ⟨_, rfl, rfl⟩) ?_) | fail)
  intro w17 a17 g17
  have H17 := Lib.hid (H16.out.grown a17 g17)
  clear a17 g17 H16
  go_wp2_with (first | (refine wpList_table rfl _ _ _ rfl w.heap.size 17 27 _ rfl rfl rfl H17.out.1 (by decide) rfl (Or.inl ⟨_, rfl, rfl⟩) ?_) | fail)
  intro w18 a18 g18
  have H18 := Lib.hid (H17.out.grown a18 g18)
  clear a18 g18 H17
  go_wp2_with (first | (refine wpList_table rfl _ _ _ rfl w.heap.size 18 28 _ rfl rfl rfl H18.out.1 (by decide) rfl (Or.inl ⟨_, rfl, rfl⟩) ?_) | fail)
  intro w19 a19 g19
  have H19 := Lib.hid (H18.out.grown a19 g19)
  clear a19 g19 H18
  go_wp2_with (first | (refine wpList_table rfl _ _ _ rfl w.heap.size 19 29 _ rfl rfl rfl H19.out.1 (by decide) rfl (Or.inl ⟨_, rfl, rfl⟩) ?_) | fail)
  intro w20 a20 g20
  have H20 := Lib.hid (H19.out.grown a20 g20)
  clear a20 g20 H19
  go_wp2_with (first | (refine wpList_table rfl _ _ _ rfl w.heap.size 20 30 _ rfl rfl rfl H20.out.1 (by decide) rfl (Or.inl ⟨_, rfl, rfl⟩) ?_) | fail)
  intro w21 a21 g21
  have H21 := Lib.hid (H20.out.grown a21 g21)
  clear a21 g21 H20
  go_wp2_with (first | (refine wpList_table rfl _ _ _ rfl w.heap.size 21 31 _ rfl rfl rfl H21.out.1 (by decide) rfl (Or.inl ⟨_, rfl, rfl⟩) ?_) | fail)
  intro w22 a22 g22
  have H22 := Lib.hid (H21.out.grown a22 g22)
  clear a22 g22 H21
  go_wp2_with (first | (refine wpList_table rfl _ _ _ rfl w.heap.size 22 32 _ rfl rfl rfl H22.out.1 (by decide) rfl (Or.inl ⟨_, rfl, rfl⟩) ?_) | fail)
  intro w23 a23 g23
  have H23 := Lib.hid (H22.out.grown a23 g23)
  clear a23 g23 H22
  go_wp2_with (first | (refine wpList_table rfl _ _ _ rfl w.heap.size 23 33 _ rfl rfl rfl H23.out.1 (by decide) rfl (Or.inl ⟨_, rfl, rfl⟩) ?_) | fail)
  intro w24 a24 g24
  have H24 := Lib.hid (H23.out.grown a24 g24)
  clear a24 g24 H23
  go_wp2_with (first | (refine wpList_table rfl _ _ _ rfl w.heap.size 24 34 _ rfl rfl rfl H24.out.1 (by decide) rfl (Or.inl ⟨_, rfl, rfl⟩) ?_) | fail)
  intro w25 a25 g25
  have H25 := Lib.hid (H24.out.grown a25 g25)
  clear a25 g25 H24
  go_wp2_with (first | (refine wpList_table rfl _ _ _ rfl w.heap.size 25 35 _ rfl rfl rfl H25.out.1 (by decide) rfl (Or.inl ⟨_, rfl, rfl⟩) ?_) | fail)
  intro w26 a26 g26
  have H26 := Lib.hid (H25.out.grown a26 g26)
  clear a26 g26 H25
  go_wp2_with (first | (refine wpList_table rfl _ _ _ rfl w.heap.size 26 36 _ rfl rfl rfl H26.out.1 (by decide) rfl (Or.inl ⟨_, rfl, rfl⟩) ?_) | fail)
  intro w27 a27 g27
  have H27 := Lib.hid (H26.out.grown a27 g27)
  clear a27 g27 H26
  go_wp2_with (first | (refine wpList_table rfl _ _ _ rfl w.heap.size 27 37 _ rfl rfl rfl H27.out.1 (by decide) rfl (Or.inl ⟨_, rfl, rfl⟩) ?_) | fail)
  intro w28 a28 g28
  have H28 := Lib.hid (H27.out.grown a28 g28)
  clear a28 g28 H27
  go_wp2
  go_ret
  exact ⟨_, rfl, H28.out⟩
end Go.Proofs.YtacaknkfddlklaaGreatDoor
namespace Go.Proofs.YtacaknkfddlklaaGreatDoor
open Go.RowKit Go.IntWalk

abbrev aggV (k n : Int) : Value := .agg #[.int .i64 k, .int .i64 n, .string ⟨#[]⟩, .slice none 0 0, .slice none 0 0]
abbrev cellsV (k n : Int) : Obj := .cells #[.int .i64 k, .int .i64 n, .string ⟨#[]⟩, .slice none 0 0, .slice none 0 0] 25
/-- a plain answer: a value of kind k and number n, with the trap c -/
def PlainPost (w : World) (k n c : Int) (e : Ending) (w' : World) : Prop := e = .returned (.tuple #[aggV k n, .int .i64 c]) ∧ Below w.heap.size w w'
/-- the same, with the world that is left -/
def ExactPost (w : World) (k n c : Int) (e : Ending) (w' : World) : Prop := e = .returned (.tuple #[aggV k n, .int .i64 c]) ∧ w' = (w.alloc (cellsV k n)).alloc (cellsV k n)
theorem two_alloc (w : World) (X Y : Obj) : Below w.heap.size w ((w.alloc X).alloc Y) := ((Below.refl _ _).alloc (Nat.le_refl _) X).alloc (by simp) Y
set_option maxRecDepth 20000 in
set_option maxHeartbeats 1000000 in
theorem prim_number (w : World) (n : Int) :
    Calls Tryz.prog 49 #[.int .i64 n] w fun e w' => e = .returned (.tuple #[aggV 2 n, .int .i64 0]) ∧ w' = w.alloc (cellsV 2 n) := by
  go_enter Tryz.func49, Tryz.ntmps49
  go_wp2
  refine bodyPost_ret (v := .tuple #[aggV 2 n, .int .i64 0]) ?_ rfl ⟨rfl, rfl⟩
  rw [results_cell_tmp rfl]
  go_simp
set_option maxRecDepth 20000 in
set_option maxHeartbeats 1000000 in
theorem prim_trapped (w : World) (c : Int) :
    Calls Tryz.prog 29 #[.int .i64 c] w fun e w' => e = .returned (.tuple #[aggV 0 0, .int .i64 c]) ∧ w' = w.alloc (cellsV 0 0) := by
  go_enter Tryz.func29, Tryz.ntmps29
  go_wp2
  refine bodyPost_ret (v := .tuple #[aggV 0 0, .int .i64 c]) ?_ rfl ⟨rfl, rfl⟩
  rw [results_cell_tmp rfl]
  go_simp
set_option maxRecDepth 20000 in
set_option maxHeartbeats 1000000 in
theorem prim_sub (w : World) (a b : Int) : Calls Tryz.prog 48 #[.int .i64 a, .int .i64 b] w fun e w' => e = .returned (.tuple #[aggV 2 (wrap64 (a - b)), .int .i64 0]) ∧ w' = (w.alloc (cellsV 2 (wrap64 (a - b)))).alloc (cellsV 2 (wrap64 (a - b))) := by
  go_enter Tryz.func48, Tryz.ntmps48
  go_wp2_with fail
  refine (prim_number _ _).mono ?_
  rintro e w1 ⟨rfl, rfl⟩
  go_wp2
  refine bodyPost_ret (v := .tuple #[aggV 2 (wrap64 (a - b)), .int .i64 0]) ?_ rfl ⟨rfl, rfl⟩
  rw [results_cell_tmp rfl]
  go_simp
set_option maxRecDepth 20000 in
set_option maxHeartbeats 1000000 in
theorem prim_mul (w : World) (a b : Int) : Calls Tryz.prog 50 #[.int .i64 a, .int .i64 b] w fun e w' => e = .returned (.tuple #[aggV 2 (wrap64 (a * b)), .int .i64 0]) ∧ w' = (w.alloc (cellsV 2 (wrap64 (a * b)))).alloc (cellsV 2 (wrap64 (a * b))) := by
  go_enter Tryz.func50, Tryz.ntmps50
  go_wp2_with fail
  refine (prim_number _ _).mono ?_
  rintro e w1 ⟨rfl, rfl⟩
  go_wp2
  refine bodyPost_ret (v := .tuple #[aggV 2 (wrap64 (a * b)), .int .i64 0]) ?_ rfl ⟨rfl, rfl⟩
  rw [results_cell_tmp rfl]
  go_simp
set_option maxRecDepth 20000 in
set_option maxHeartbeats 1000000 in
theorem prim_quo (w : World) (a b : Int) (hb : b ≠ 0) : Calls Tryz.prog 52 #[.int .i64 a, .int .i64 b] w fun e w' => e = .returned (.int .i64 (wrap64 (a.tdiv b))) ∧ w' = w := by
  go_enter Tryz.func52, Tryz.ntmps52
  have g0 : (b == 0) = false := by simpa using hb
  go_wp2
  go_ret
  exact ⟨rfl, rfl⟩
set_option maxRecDepth 20000 in
set_option maxHeartbeats 1000000 in
theorem prim_rem (w : World) (a b : Int) (hb : b ≠ 0) : Calls Tryz.prog 53 #[.int .i64 a, .int .i64 b] w fun e w' => e = .returned (.int .i64 (a.tmod b)) ∧ w' = w := by
  go_enter Tryz.func53, Tryz.ntmps53
  have g0 : (b == 0) = false := by simpa using hb
  go_wp2
  go_ret
  exact ⟨rfl, rfl⟩
set_option maxRecDepth 20000 in
set_option maxHeartbeats 1000000 in
theorem prim_div_quo (w : World) (a b : Int) (p : Nat) (hc : w.cell? ⟨p, 0, none⟩ = some (.func (.func 52) #[] #[])) :
    Calls Tryz.prog 104 #[.int .i64 a, .int .i64 b, .pointer (some ⟨p, 0, none⟩)] w (ExactPost w (if b = 0 then 0 else 2) (if b = 0 then 0 else (wrap64 (a.tdiv b))) (if b = 0 then 1 else 0)) := by
  have hlt := World.block_lt_of_cell? w _ hc
  have hc1 : ∀ X : Obj, (w.alloc X).cell? ⟨p, 0, none⟩ = some (.func (.func 52) #[] #[]) := fun X => bcell ((Below.refl _ _).alloc (Nat.le_refl _) X) hc
  have Hlt := Lib.hid hlt
  clear hlt hc
  by_cases hb : b = 0
  · subst hb
    clear hc1
    go_enter Tryz.func104, Tryz.ntmps104
    go_wp2_with fail
    refine (prim_trapped _ _).mono ?_
    rintro e w1 ⟨rfl, rfl⟩
    go_wp2
    refine bodyPost_ret (v := .tuple #[aggV 0 0, .int .i64 1]) ?_ rfl ⟨rfl, rfl⟩
    rw [results_cell_tmp rfl]
    go_simp
  · have g0 : (b == 0) = false := by simpa using hb
    have Hb := Lib.hid hb
    simp only [if_neg hb]
    clear hb
    go_enter Tryz.func104, Tryz.ntmps104
    go_wp2_with fail
    refine (prim_quo _ _ _ Hb.out).mono ?_
    rintro e w1 ⟨rfl, rfl⟩
    go_wp2_with fail
    refine (prim_number _ _).mono ?_
    rintro e w1 ⟨rfl, rfl⟩
    go_wp2
    refine bodyPost_ret (v := .tuple #[aggV 2 (wrap64 (a.tdiv b)), .int .i64 0]) ?_ rfl ⟨rfl, rfl⟩
    rw [results_cell_tmp rfl]
    go_simp

set_option maxRecDepth 20000 in
set_option maxHeartbeats 1000000 in
theorem prim_div_rem (w : World) (a b : Int) (p : Nat) (hc : w.cell? ⟨p, 0, none⟩ = some (.func (.func 53) #[] #[])) :
    Calls Tryz.prog 104 #[.int .i64 a, .int .i64 b, .pointer (some ⟨p, 0, none⟩)] w (ExactPost w (if b = 0 then 0 else 2) (if b = 0 then 0 else (a.tmod b)) (if b = 0 then 1 else 0)) := by
  have hlt := World.block_lt_of_cell? w _ hc
  have hc1 : ∀ X : Obj, (w.alloc X).cell? ⟨p, 0, none⟩ = some (.func (.func 53) #[] #[]) := fun X => bcell ((Below.refl _ _).alloc (Nat.le_refl _) X) hc
  have Hlt := Lib.hid hlt
  clear hlt hc
  by_cases hb : b = 0
  · subst hb
    clear hc1
    go_enter Tryz.func104, Tryz.ntmps104
    go_wp2_with fail
    refine (prim_trapped _ _).mono ?_
    rintro e w1 ⟨rfl, rfl⟩
    go_wp2
    refine bodyPost_ret (v := .tuple #[aggV 0 0, .int .i64 1]) ?_ rfl ⟨rfl, rfl⟩
    rw [results_cell_tmp rfl]
    go_simp
  · have g0 : (b == 0) = false := by simpa using hb
    have Hb := Lib.hid hb
    simp only [if_neg hb]
    clear hb
    go_enter Tryz.func104, Tryz.ntmps104
    go_wp2_with fail
    refine (prim_rem _ _ _ Hb.out).mono ?_
    rintro e w1 ⟨rfl, rfl⟩
    go_wp2_with fail
    refine (prim_number _ _).mono ?_
    rintro e w1 ⟨rfl, rfl⟩
    go_wp2
    refine bodyPost_ret (v := .tuple #[aggV 2 (a.tmod b), .int .i64 0]) ?_ rfl ⟨rfl, rfl⟩
    rw [results_cell_tmp rfl]
    go_simp
set_option maxRecDepth 20000 in
set_option maxHeartbeats 1000000 in
theorem prim_truth (w : World) (t : Bool) :
    Calls Tryz.prog 56 #[.bool t] w (ExactPost w 1 (if t then 1 else 0) 0) := by
  cases t
  · go_enter Tryz.func56, Tryz.ntmps56
    go_wp2
    refine bodyPost_ret (v := .tuple #[aggV 1 0, .int .i64 0]) ?_ rfl ⟨rfl, rfl⟩
    rw [results_cell_tmp rfl]
    go_simp
  · go_enter Tryz.func56, Tryz.ntmps56
    go_wp2
    refine bodyPost_ret (v := .tuple #[aggV 1 1, .int .i64 0]) ?_ rfl ⟨rfl, rfl⟩
    rw [results_cell_tmp rfl]
    go_simp
end Go.Proofs.YtacaknkfddlklaaGreatDoor
namespace Go.Proofs.YtacaknkfddlklaaGreatDoor
open Go.RowKit Go.IntWalk

set_option maxRecDepth 20000 in
set_option maxHeartbeats 1000000 in
theorem prim_kinds (x y : V) (k1 k2 : Int) (A : Option Addr) (c d : Nat) (p : Nat) (ok : Nat → Prop) (w : World) (hls : RdVs ok w (.slice A 2 c) 0 [x, y])
    (hk1 : w.cell? ⟨p, 0, none⟩ = some (.int .i64 k1)) (hk2 : w.cell? ⟨p, 1, none⟩ = some (.int .i64 k2)) :
    Calls Tryz.prog 102 #[.slice A 2 c, .slice (some ⟨p, 0, none⟩) 2 d] w fun e w' => e = .returned (.bool (decide (x.kind = k1) && decide (y.kind = k2))) ∧ w' = w := by
  obtain ⟨g, off, A1, c1, B1, d1, rfl, hog, hr0, e0, e1, e2, e3, e4⟩ := hls.elem 0 (by simp)
  obtain ⟨g', off', A2, c2, B2, d2, hgg, hog', hr1, f0, f1, f2, f3, f4⟩ := hls.elem 1 (by simp)
  injection hgg with hgg
  injection hgg with hg1 hg2
  subst hg1 hg2
  simp only [List.getElem_cons_zero, List.getElem_cons_succ, Nat.zero_mul, Nat.one_mul, Nat.add_zero] at e0 f0
  clear hls hr0 hr1 e1 e2 e3 e4 f1 f2 f3 f4 hog hog'
  go_enter Tryz.func102, Tryz.ntmps102
  go_wp2_with fail
  go_loopw [9] (fun i wr => ∃ k : Nat, k ≤ 2 ∧ i = .int .i64 k ∧ wr = w ∧ (0 < k → x.kind = k1) ∧ (1 < k → y.kind = k2)) (fun i _ => 2 - (intOf i).toNat)
  case atStart => exact ⟨0, by omega, rfl, rfl, by omega, by omega⟩
  case round =>
    obtain ⟨k, hk, rfl, rfl, h1, h2⟩ := hrel
    have H1 := Lib.hid h1
    have H2 := Lib.hid h2
    clear h1 h2
    have hk3 : k = 0 ∨ k = 1 ∨ k = 2 := by omega
    rcases hk3 with rfl | rfl | rfl
    · clear H1 H2
      have z0 : ((0 : Nat) : Int) = 0 := rfl
      by_cases hx : x.kind = k1
      · have g0 : (x.kind != k1) = false := by simpa using hx
        have Hx := Lib.hid hx
        clear hx
        go_wp2_with fail
        exact ⟨⟨1, by omega, by go_num, trivial, fun _ => Hx.out, by omega⟩, by simp [intOf]⟩
      · have g0 : (x.kind != k1) = true := by simpa using hx
        have Hx := Lib.hid hx
        clear hx
        go_wp2_with fail
        go_ret
        exact ⟨by simp [Hx.out], rfl⟩
    · have z1 : ((1 : Nat) : Int) = 1 := rfl
      clear H2
      by_cases hy : y.kind = k2
      · have g0 : (y.kind != k2) = false := by simpa using hy
        have Hy := Lib.hid hy
        clear hy
        go_wp2_with fail
        exact ⟨⟨2, by omega, by go_num, trivial, fun _ => H1.out (by omega), fun _ => Hy.out⟩, by simp [intOf]⟩
      · have g0 : (y.kind != k2) = true := by simpa using hy
        have Hy := Lib.hid hy
        clear hy
        go_wp2_with fail
        go_ret
        exact ⟨by simp [Hy.out], rfl⟩
    · have z2 : ((2 : Nat) : Int) = 2 := rfl
      go_wp2_with fail
      go_ret
      exact ⟨by simp [H1.out (by omega), H2.out (by omega)], rfl⟩
end Go.Proofs.YtacaknkfddlklaaGreatDoor
