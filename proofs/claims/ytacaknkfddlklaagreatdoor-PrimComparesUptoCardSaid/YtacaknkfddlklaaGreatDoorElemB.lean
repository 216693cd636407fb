/- Contract of value.twin: the same value in new memory. Contracts of value.Copy, prim.sized, prim.text, prim.size, prim.row. Rows of values as cells: appended, owned. No function of the program is named here. Contract of prim.add. Printed by gen_add.py. Contracts of prim's len, kind, abort, array. -/
import Derived.Test.YtacaknkfddlklaaGreatDoorValB
import Derived.Test.YtacaknkfddlklaaGreatDoorDoB
import Derived.Deep.DeepCutAuto
import Derived.Deep.RegionLaw
import Derived.Test.YtacaknkfddlklaaGreatDoorIntsB
set_option linter.unusedVariables false
set_option linter.unusedSimpArgs false
namespace Go.Proofs.YtacaknkfddlklaaGreatDoor
open Go.RowKit Go.IntWalk

theorem infoStr : (Tryz.prog.info? 9).map (fun i => (i.zero, i.size, i.bytes)) = some (some (.string ⟨#[]⟩), 1, 16) := by kernel_rfl
theorem infoVal : (Tryz.prog.info? 25).map (fun i => (i.zero, i.size, i.bytes)) = some (some (.agg #[.int .i64 0, .int .i64 0, .string ⟨#[]⟩, .slice none 0 0, .slice none 0 0]), 5, 80) := by kernel_rfl
/-- the cells of keys -/
def kvals (k : List (List UInt8)) : List Value := k.map fun s => .string ⟨s.toArray⟩
theorem kvals_len (k : List (List UInt8)) : (kvals k).length = k.length * 1 := by simp [kvals]
theorem kvals_one (k : List (List UInt8)) : ∀ u ∈ kvals k, u.oneCell' = true := by
  intro u hu
  simp only [kvals, List.mem_map] at hu
  obtain ⟨_, _, rfl⟩ := hu
  rfl
/-- a row of keys that a call owns reads as them -/
theorem RdK.own {ok : Nat → Prop} {w : World} {v : Value} {k : List (List UInt8)} (h : OwnR 9 1 ok w v k.length (kvals k)) (hl : k.length ≤ 16777216) (hs : ∀ i (hi : i < k.length), (k[i]).length ≤ 16777216) : RdK ok w v k := by
  obtain ⟨A, c, rfl, hc⟩ := h.slice
  have hcm : c ≤ 9223372036854775807 := by
    rcases h.row.2 with ⟨he, _⟩ | ⟨g, cap, cur, he, _, _, _, hm, _⟩
    · injection he with _ _ h3; omega
    · injection he with _ _ h3; unfold maxLen at hm; omega
  refine ⟨⟨A, c, rfl, hc, hcm, hl⟩, fun i hi => ?_⟩
  obtain ⟨g, cap, hv, hk, _, hcell⟩ := h.form (Nat.lt_of_le_of_lt (Nat.zero_le _) hi)
  injection hv with h1 h2 h3
  subst h1
  refine ⟨g, i, ⟨0, _, _, rfl, by omega, hk⟩, hcell i _ ?_, hs i hi⟩
  simp [kvals, List.getElem?_eq_getElem hi]
/-- a row of keys: its cells -/
theorem RdK.news {ok : Nat → Prop} {w : World} {A : Option Addr} {n c : Nat} {k : List (List UInt8)} (h : RdK ok w (.slice A n c) k) : 0 < k.length → ∃ g off, A = some ⟨g, off, none⟩ ∧ ∀ j u, (kvals k)[j]? = some u → w.cell? ⟨g, off + j, none⟩ = some u := by
  intro h0
  obtain ⟨g, off, hA, _, _⟩ := h.elem 0 h0
  refine ⟨g, off, hA, fun j u hj => ?_⟩
  simp only [kvals, List.getElem?_map, Option.map_eq_some_iff] at hj
  obtain ⟨s, hs, rfl⟩ := hj
  obtain ⟨hlt, hs'⟩ := List.getElem?_eq_some_iff.1 hs
  obtain ⟨g', off', hA', _, hc, _⟩ := h.elem j hlt
  rw [hA] at hA'
  injection hA' with hA'
  injection hA' with h1 h2
  subst h1 h2
  rw [hc, hs']
theorem sc_other {w : World} {g o g' p : Nat} {v : Value} (h : g ≠ g' ∨ o ≠ p) : (w.setCell ⟨g, o, none⟩ v).cell? ⟨g', p, none⟩ = w.cell? ⟨g', p, none⟩ :=
  World.cell?_setCell_other (h := fun e => by injection e with h1 h2; rcases h with h | h <;> omega) ..
theorem sc_same {w : World} {a : Addr} {u v : Value} (h : w.cell? a = some u) : (w.setCell a v).cell? a = some v := World.cell?_setCell_same (h := h) ..
theorem DoSt.set4 {w w1 : World} {a0 a1 a2 a3 a4 : Value} (h : DoSt w a0 a1 a2 a3 a4 w1) (u : Value) : DoSt w a0 a1 a2 a3 u (w1.setCell ⟨w.heap.size, 4, none⟩ u) := by
  obtain ⟨h0, h1, h2, h3, h4, r0, r1, r2, r3, r4, hf, hw⟩ := h
  refine ⟨?_, ?_, ?_, ?_, ?_, ?_, ?_, ?_, ?_, ?_, fun i => ?_, hw.setCell (Nat.le_refl _) _⟩
  · rw [sc_other (by omega)]; exact h0
  · rw [sc_other (by omega)]; exact h1
  · rw [sc_other (by omega)]; exact h2
  · rw [sc_other (by omega)]; exact h3
  · exact sc_same h4
  · rw [sc_other (by omega)]; exact r0
  · rw [sc_other (by omega)]; exact r1
  · rw [sc_other (by omega)]; exact r2
  · rw [sc_other (by omega)]; exact r3
  · rw [sc_other (by omega)]; exact r4
  · simpa [go_sem] using hf i
/-- what turns other blocks leaves the two boxes -/
theorem DoSt.fr {w w1 w2 : World} {a0 a1 a2 a3 a4 : Value} {ok : Nat → Prop} (h : DoSt w a0 a1 a2 a3 a4 w1) (hf : Fr ok w1 w2) (hn : ∀ b, b ≤ w.heap.size + 1 → ¬ ok b) : DoSt w a0 a1 a2 a3 a4 w2 := by
  obtain ⟨h0, h1, h2, h3, h4, r0, r1, r2, r3, r4, hfz, hw⟩ := h
  have n0 : ¬ ok w.heap.size := hn _ (by omega)
  have n1 : ¬ ok (w.heap.size + 1) := hn _ (by omega)
  exact ⟨hf.cell h0 n0, hf.cell h1 n0, hf.cell h2 n0, hf.cell h3 n0, hf.cell h4 n0, hf.cell r0 n1, hf.cell r1 n1, hf.cell r2 n1, hf.cell r3 n1, hf.cell r4 n1, fun i => (World.frozen?_of_block (a := ⟨w.heap.size + 1, i, none⟩) (hf.block _ (lt_of_cell r0) n1)).trans (hfz i), hf.behind hw fun b hb => hn b (by omega)⟩
theorem frozen_below {w1 w2 : World} {g : Nat} (hb : Below w1.heap.size w1 w2) (hg : g < w1.heap.size) (hf : ∀ i, w1.frozen? ⟨g, i, none⟩ = false) : ∀ i, w2.frozen? ⟨g, i, none⟩ = false :=
  fun i => (World.frozen?_of_block (a := ⟨g, i, none⟩) (hb.block _ hg)).trans (hf i)
/-- within twin's loop: k parts are copied into the block g -/
structure TwInv (w : World) (X : V) (a0 a1 a2 a3 K : Value) (g k : Nat) (wr : World) : Prop where
  st : DoSt w a0 a1 a2 a3 K wr
  keys : RdK (fun b => w.heap.size + 2 ≤ b ∧ b < g) wr K X.keys
  two : w.heap.size + 2 ≤ g
  done : ∀ j (hj : j < X.parts.length), j < k → ∃ v, Five wr g (j * 5) v ∧ RdV (fun b => g < b) wr v X.parts[j]
  cells : ∀ i, i < X.parts.length * 5 → ∃ c, wr.cell? ⟨g, i, none⟩ = some c
  melt : ∀ i, wr.frozen? ⟨g, i, none⟩ = false
  lt : g < wr.heap.size
  fz : ∀ i, wr.frozen? ⟨w.heap.size, i, none⟩ = false
theorem TwInv.below {w : World} {X : V} {a0 a1 a2 a3 K : Value} {g k : Nat} {wr w3 : World} (h : TwInv w X a0 a1 a2 a3 K g k wr) (hb : Below wr.heap.size wr w3) : TwInv w X a0 a1 a2 a3 K g k w3 :=
  ⟨h.st.below hb, h.keys.below hb, h.two, fun j hj hk => by obtain ⟨v, h1, h2⟩ := h.done j hj hk; exact ⟨v, h1.below hb, h2.below hb⟩, fun i hi => by obtain ⟨c, hc⟩ := h.cells i hi; exact ⟨c, bcell hb hc⟩,
    fun i => (World.frozen?_of_block (a := ⟨g, i, none⟩) (hb.block _ h.lt)).trans (h.melt i), Nat.lt_of_lt_of_le h.lt hb.size, frozen_below hb (lt_of_cell h.st.1) h.fz⟩
theorem TwInv.step {w : World} {X : V} {a0 a1 a2 a3 K : Value} {g k m : Nat} {w3 : World} (h : TwInv w X a0 a1 a2 a3 K g k w3) (hk : k < X.parts.length) {c0 c1 c2 c3 c4 : Value} (hm : g < m) (hv : RdV (newB m) w3 (.agg #[c0, c1, c2, c3, c4]) X.parts[k]) :
    TwInv w X a0 a1 a2 a3 K g (k + 1) (((((w3.setCell ⟨g, k * 5, none⟩ c0).setCell ⟨g, k * 5 + 1, none⟩ c1).setCell ⟨g, k * 5 + 2, none⟩ c2).setCell ⟨g, k * 5 + 3, none⟩ c3).setCell ⟨g, k * 5 + 4, none⟩ c4) := by
  have hfr : Fr (fun b => b = g) w3 (((((w3.setCell ⟨g, k * 5, none⟩ c0).setCell ⟨g, k * 5 + 1, none⟩ c1).setCell ⟨g, k * 5 + 2, none⟩ c2).setCell ⟨g, k * 5 + 3, none⟩ c3).setCell ⟨g, k * 5 + 4, none⟩ c4) :=
    ((((((Fr.refl (fun b => b = g) w3).setCell (p := ⟨g, k * 5, none⟩) rfl c0).setCell (p := ⟨g, k * 5 + 1, none⟩) rfl c1).setCell (p := ⟨g, k * 5 + 2, none⟩) rfl c2).setCell (p := ⟨g, k * 5 + 3, none⟩) rfl c3).setCell (p := ⟨g, k * 5 + 4, none⟩) rfl c4)
  have hoth : ∀ i, i < k * 5 ∨ k * 5 + 5 ≤ i → (((((w3.setCell ⟨g, k * 5, none⟩ c0).setCell ⟨g, k * 5 + 1, none⟩ c1).setCell ⟨g, k * 5 + 2, none⟩ c2).setCell ⟨g, k * 5 + 3, none⟩ c3).setCell ⟨g, k * 5 + 4, none⟩ c4).cell? ⟨g, i, none⟩ = w3.cell? ⟨g, i, none⟩ := by
    intro i hi
    rw [sc_other (by omega), sc_other (by omega), sc_other (by omega), sc_other (by omega), sc_other (by omega)]
  obtain ⟨d0, e0⟩ := h.cells (k * 5) (by omega)
  obtain ⟨d1, e1⟩ := h.cells (k * 5 + 1) (by omega)
  obtain ⟨d2, e2⟩ := h.cells (k * 5 + 2) (by omega)
  obtain ⟨d3, e3⟩ := h.cells (k * 5 + 3) (by omega)
  obtain ⟨d4, e4⟩ := h.cells (k * 5 + 4) (by omega)
  have hfive : Five (((((w3.setCell ⟨g, k * 5, none⟩ c0).setCell ⟨g, k * 5 + 1, none⟩ c1).setCell ⟨g, k * 5 + 2, none⟩ c2).setCell ⟨g, k * 5 + 3, none⟩ c3).setCell ⟨g, k * 5 + 4, none⟩ c4) g (k * 5) (.agg #[c0, c1, c2, c3, c4]) := by
    refine ⟨c0, c1, c2, c3, c4, rfl, ?_, ?_, ?_, ?_, ?_⟩
    · rw [sc_other (by omega), sc_other (by omega), sc_other (by omega), sc_other (by omega)]
      exact sc_same e0
    · rw [sc_other (by omega), sc_other (by omega), sc_other (by omega)]
      exact sc_same (u := d1) (by rw [sc_other (by omega)]; exact e1)
    · rw [sc_other (by omega), sc_other (by omega)]
      exact sc_same (u := d2) (by rw [sc_other (by omega), sc_other (by omega)]; exact e2)
    · rw [sc_other (by omega)]
      exact sc_same (u := d3) (by rw [sc_other (by omega), sc_other (by omega), sc_other (by omega)]; exact e3)
    · exact sc_same (u := d4) (by rw [sc_other (by omega), sc_other (by omega), sc_other (by omega), sc_other (by omega)]; exact e4)
  refine ⟨h.st.fr hfr (fun b hb e => by have := h.two; omega), h.keys.fr hfr (fun b _ hb e => by omega), h.two, fun j hj hk' => ?_, fun i hi => ?_, fun i => by simpa [go_sem] using h.melt i, by simpa [World.setCell] using h.lt, fun i => by simpa [go_sem] using h.fz i⟩
  · rcases Nat.lt_or_ge j k with hlt | hge
    · obtain ⟨v, ⟨x0, x1, x2, x3, x4, hx, q0, q1, q2, q3, q4⟩, h2⟩ := h.done j hj hlt
      refine ⟨v, ⟨x0, x1, x2, x3, x4, hx, ?_, ?_, ?_, ?_, ?_⟩, h2.fr hfr (fun b _ hb e => by omega)⟩
      · rw [hoth _ (by omega)]; exact q0
      · rw [hoth _ (by omega)]; exact q1
      · rw [hoth _ (by omega)]; exact q2
      · rw [hoth _ (by omega)]; exact q3
      · rw [hoth _ (by omega)]; exact q4
    · have : j = k := by omega
      subst this
      exact ⟨_, hfive, (hv.fr hfr (fun b _ hb e => by simp only [newB] at hb; omega)).imp fun b hb => by simp only [newB] at hb; omega⟩
  · by_cases hin : i < k * 5 ∨ k * 5 + 5 ≤ i
    · rw [hoth i hin]; exact h.cells i hi
    · obtain ⟨x0, x1, x2, x3, x4, hx, q0, q1, q2, q3, q4⟩ := hfive
      have hcs : i = k * 5 ∨ i = k * 5 + 1 ∨ i = k * 5 + 2 ∨ i = k * 5 + 3 ∨ i = k * 5 + 4 := by omega
      rcases hcs with rfl | rfl | rfl | rfl | rfl
      · exact ⟨_, q0⟩
      · exact ⟨_, q1⟩
      · exact ⟨_, q2⟩
      · exact ⟨_, q3⟩
      · exact ⟨_, q4⟩
theorem TwInv.start {w w1 : World} {X : V} {a0 a1 a2 a3 a4 K : Value} (h : DoSt w a0 a1 a2 a3 a4 w1) (hk : RdK (fun b => w.heap.size + 2 ≤ b ∧ b < w1.heap.size) w1 K X.keys) (hz : ∀ i, w1.frozen? ⟨w.heap.size, i, none⟩ = false) (z : Array Value) (t : TypeId) :
    TwInv w X a0 a1 a2 a3 K w1.heap.size 0 ((w1.setCell ⟨w.heap.size, 4, none⟩ K).alloc (.cells (madeCells z (X.parts.length * 5)) t)) := by
  have hs : (w1.setCell ⟨w.heap.size, 4, none⟩ K).heap.size = w1.heap.size := by simp [World.setCell]
  have hb : Below (w1.setCell ⟨w.heap.size, 4, none⟩ K).heap.size (w1.setCell ⟨w.heap.size, 4, none⟩ K) ((w1.setCell ⟨w.heap.size, 4, none⟩ K).alloc (.cells (madeCells z (X.parts.length * 5)) t)) := (Below.refl _ _).alloc (Nat.le_refl _) _
  have h1 : w.heap.size + 1 < w1.heap.size := lt_of_cell h.2.2.2.2.2.1
  have hfr : Fr (fun b => b = w.heap.size) w1 (w1.setCell ⟨w.heap.size, 4, none⟩ K) := (Fr.refl (fun b => b = w.heap.size) w1).setCell (p := ⟨w.heap.size, 4, none⟩) rfl K
  refine ⟨(h.set4 K).below hb, (hk.fr hfr fun b _ hb e => by omega).below hb, h1, fun j hj h0 => absurd h0 (Nat.not_lt_zero _), fun i hi => ?_, fun i => ?_, by simp [World.setCell], fun i => ?_⟩
  · rw [← hs]
    refine ⟨(madeCells z (X.parts.length * 5))[i]'(by rw [size_madeCells]; exact hi), ?_⟩
    rw [World.cell?_alloc_at _ _ _ _ rfl]
    exact Array.getElem?_eq_getElem _
  · rw [← hs]; exact World.frozen?_alloc_at _ _ _ _ rfl
  · exact frozen_below hb (by rw [hs]; omega) (fun i => by simpa [go_sem] using hz i) i
theorem make_run (n : Nat) (hn : n ≤ 16777216) (w : World) : (Instr.makeSlice 22 (.int .i64 (n : Int)) (.int .i64 (n : Int))).run Tryz.prog w = .ok (.slice (some ⟨w.heap.size, 0, none⟩) n n) (w.alloc (.cells (madeCells #[.int .i64 0, .int .i64 0, .string ⟨#[]⟩, .slice none 0 0, .slice none 0 0] (n * 5)) 25)) := by
  obtain ⟨i, hi, hz0, hz1, hz2⟩ := info_parts infoVal
  have h := run_make (P := Tryz.prog) w 22 25 i _ Tryz.underlying22 hi hz0 .i64 .i64 n n (by omega) (by omega) (by rw [hz2]; omega) (by omega)
  rw [hz1] at h
  simpa [Value.cells] using h
theorem six_fr (w1 : World) {n b g : Nat} (hg : g ≤ n) (hb : b ≤ n) (o o0 o1 o2 o3 o4 : Nat) (v v0 v1 v2 v3 v4 : Value) : Fr (fun k => k ≤ n) w1 ((((((w1.setCell ⟨g, o, none⟩ v).setCell ⟨b, o0, none⟩ v0).setCell ⟨b, o1, none⟩ v1).setCell ⟨b, o2, none⟩ v2).setCell ⟨b, o3, none⟩ v3).setCell ⟨b, o4, none⟩ v4) :=
  (((((((Fr.refl (fun k => k ≤ n) w1).setCell (p := ⟨g, o, none⟩) hg v).setCell (p := ⟨b, o0, none⟩) hb v0).setCell (p := ⟨b, o1, none⟩) hb v1).setCell (p := ⟨b, o2, none⟩) hb v2).setCell (p := ⟨b, o3, none⟩) hb v3).setCell (p := ⟨b, o4, none⟩) hb v4)
theorem TwInv.finish {w : World} {X : V} {a0 a1 a2 a3 K : Value} {g : Nat} {wr W : World} (h : TwInv w X a0 a1 a2 a3 K g X.parts.length wr) (hf : Fr (fun b => b ≤ w.heap.size + 1) wr W) (h0 : i64ok X.kind) (h1 : i64ok X.num) (h2 : X.str.length ≤ 16777216) (h5 : X.parts.length ≤ 16777216) :
    RdV (newB w.heap.size) W (.agg #[.int .i64 X.kind, .int .i64 X.num, .string ⟨X.str.toArray⟩, .slice (some ⟨g, 0, none⟩) X.parts.length X.parts.length, K]) X := by
  have key : ∀ j (hj : j < X.parts.length), ∃ gg o v, SlAt (newB w.heap.size) (.slice (some ⟨g, 0, none⟩) X.parts.length X.parts.length) 5 (0 + j) gg o ∧ Five W gg o v ∧ RdV (newB w.heap.size) W v X.parts[j] := fun j hj => by
    obtain ⟨v, hv1, hv2⟩ := h.done j hj hj
    have h2 := h.two
    exact ⟨g, j * 5, v, ⟨0, _, _, rfl, by omega, by simp only [newB]; omega⟩, hv1.fr hf (fun _ e => by omega), (hv2.fr hf (fun b _ hb e => by omega)).imp (fun b hb => by simp only [newB]; omega)⟩
  have hk : RdK (newB w.heap.size) W K X.keys := (h.keys.fr hf (fun b _ hb e => by omega)).imp (fun b hb => by simp only [newB]; omega)
  cases X with
  | mk kind n s l ks => exact RdV.close h0 h1 h2 ⟨_, _, rfl, Nat.le_refl _, by simp only [V.parts] at *; omega, h5⟩ (RdVs.mk key) hk
set_option maxRecDepth 20000 in
set_option maxHeartbeats 2000000 in
theorem value_twin (m : Nat) : ∀ (X : V) (v : Value) (ok : Nat → Prop) (w : World) (hv : RdV ok w v X) (hm : SizeOf.sizeOf X ≤ m),
    Calls Tryz.prog 130 #[v] w fun e w' => ∃ v', e = .returned v' ∧ RdV (newB w.heap.size) w' v' X ∧ Below w.heap.size w w' := by
  induction m using Nat.strongRecOn with
  | _ m ih =>
  intro X v ok w hv hm
  obtain ⟨A, c, B, d, rfl, h1, h2, h3, h4, h5, h6, h7⟩ := hv.form
  obtain ⟨hk0, hk1, hk2, lv, kv, hvv, hf1, hf2, hf3⟩ := hv.open
  injection hvv with hvv
  simp only [Array.mk.injEq, List.cons.injEq, and_true, true_and] at hvv
  obtain ⟨rfl, rfl⟩ := hvv
  have HK := Lib.hid hf3
  have HL := Lib.hid hf2
  have hmk := make_run X.parts.length h5
  have HX := Lib.hid (rbox5 w (.int .i64 X.kind) (.int .i64 X.num) (.string ⟨X.str.toArray⟩) (.slice A X.parts.length c) (.slice B X.keys.length d) 25)
  have h16 : X.keys.length * 16 ≤ 140737488355328 := by omega
  have H16 := Lib.hid h16
  have HO := Lib.hid (And.intro hk0 hk1)
  clear hv hf1 hf2 hf3 hk0 hk1 hk2 h16
  go_enter Tryz.func130, Tryz.ntmps130
  go_wp2_with (first | (refine wpList_append_nil rfl _ _ 23 rfl infoStr Tryz.underlying23 rfl (by decide) (by decide) rfl B X.keys.length d (kvals X.keys) rfl (kvals_len _) (RdK.news (HK.out.below (two_alloc _ _ _))) (kvals_one _) H16.out ?_) | fail)
  intro v1 w1 g1 g2
  have HS1 := Lib.hid ((DoSt.made w (.int .i64 X.kind) (.int .i64 X.num) (.string ⟨X.str.toArray⟩) (.slice A X.parts.length c) (.slice B X.keys.length d)).below (w2 := w1) (by simpa using g2))
  have hkl : ∀ i (hi : i < X.keys.length), (X.keys[i]).length ≤ 16777216 := fun i hi => by
    obtain ⟨_, _, _, _, _, h⟩ := HK.out.elem i hi
    exact h
  have HK1 := Lib.hid (RdK.own (g1.mono (ok' := fun b => w.heap.size + 2 ≤ b ∧ b < w1.heap.size) (fun k hk hn => ⟨hn, hk⟩)) h6 hkl)
  obtain ⟨A1, c1, rfl, hc1⟩ := g1.slice
  have hst := HS1.out
  obtain ⟨e0, e1, e2, e3, e4, r0, r1, r2, r3, r4, hf, hw⟩ := hst
  have hz := frozen_below (w1 := (w.alloc (.cells #[.int .i64 X.kind, .int .i64 X.num, .string ⟨X.str.toArray⟩, .slice A X.parts.length c, .slice B X.keys.length d] 25)).alloc (cellsV 0 0)) (w2 := w1) (g := w.heap.size) (by simpa using g2) (by simp; omega)
    (frozen_below ((Below.refl _ _).alloc (Nat.le_refl _) _) (by simp) (fun i => World.frozen?_alloc_at _ _ _ _ rfl))
  have hz4 := hz 4
  have HZ := Lib.hid hz
  have HI := Lib.hid (TwInv.start (X := X) HS1.out HK1.out hz #[.int .i64 0, .int .i64 0, .string ⟨#[]⟩, .slice none 0 0, .slice none 0 0] 25)
  have q3 := HI.out.st.2.2.2.1
  clear g1 g2 hkl hf hw HX hz
  go_wp2_with fail
  clear e0 e1 e2 e3 e4 r0 r1 r2 r3 r4 hz4 q3 HZ
  go_loopw [17] (fun i wr => ∃ k : Nat, k ≤ X.parts.length ∧ i = .int .i64 k ∧ TwInv w X (.int .i64 X.kind) (.int .i64 X.num) (.string ⟨X.str.toArray⟩) (.slice A X.parts.length c) (.slice A1 X.keys.length c1) w1.heap.size k wr) (fun i _ => X.parts.length - (intOf i).toNat)
  case atStart => exact ⟨0, Nat.zero_le _, rfl, HI.out⟩
  case round =>
    obtain ⟨k, hk, rfl, hI⟩ := hrel
    have HI1 := Lib.hid hI
    by_cases hlt : k < X.parts.length
    · have hlA : (k : Int) < (X.parts.length : Int) := by omega
      have h00 : (0 : Int) ≤ (k : Int) := by omega
      have hsz := V.sz_part hlt
      obtain ⟨g0, off, A', c', B', d', rfl, hog, hrd, e0, e1, e2, e3, e4⟩ := (HL.out.below hI.st.2.2.2.2.2.2.2.2.2.2.2).elem k hlt
      have hY := fun (W : World) (hv : RdV ok W (valV X.parts[k] A' c' B' d') X.parts[k]) => ih (SizeOf.sizeOf X.parts[k]) (Nat.lt_of_lt_of_le hsz hm) X.parts[k] (valV X.parts[k] A' c' B' d') ok W hv (Nat.le_refl _)
      have hstep := fun (w3 : World) (h : TwInv w X (.int .i64 X.kind) (.int .i64 X.num) (.string ⟨X.str.toArray⟩) (.slice (some ⟨g0, off, none⟩) X.parts.length c) (.slice A1 X.keys.length c1) w1.heap.size k w3) (c0 c1 c2 c3 c4 : Value) (m : Nat) => h.step (c0 := c0) (c1 := c1) (c2 := c2) (c3 := c3) (c4 := c4) (m := m) hlt
      generalize X.parts[k] = Y at *
      have HY := Lib.hid hY
      have HRd := Lib.hid hrd
      have HStep := Lib.hid hstep
      have Hlt := Lib.hid hlt
      clear hY hrd hstep hI hog hlt hsz
      go_wp2_with fail
      refine (HY.out _ (HRd.out.below ((Below.refl _ _).alloc (Nat.le_refl _) _))).mono ?_
      rintro e w3 ⟨v', rfl, hv', hb3⟩
      have HI3 := Lib.hid ((HI1.out.below ((Below.refl _ _).alloc (Nat.le_refl _) _)).below hb3)
      obtain ⟨A2, c2, B2, d2, rfl, _⟩ := hv'.form
      have HV := Lib.hid hv'
      obtain ⟨z0, f0⟩ := HI3.out.cells (k * 5) (by have := Hlt.out; omega)
      obtain ⟨z1, f1⟩ := HI3.out.cells (k * 5 + 1) (by have := Hlt.out; omega)
      obtain ⟨z2, f2⟩ := HI3.out.cells (k * 5 + 2) (by have := Hlt.out; omega)
      obtain ⟨z3, f3⟩ := HI3.out.cells (k * 5 + 3) (by have := Hlt.out; omega)
      obtain ⟨z4, f4⟩ := HI3.out.cells (k * 5 + 4) (by have := Hlt.out; omega)
      have m0 := HI3.out.melt (k * 5)
      have m1 := HI3.out.melt (k * 5 + 1)
      have m2 := HI3.out.melt (k * 5 + 2)
      have m3 := HI3.out.melt (k * 5 + 3)
      have m4 := HI3.out.melt (k * 5 + 4)
      clear hb3 hv' e0 e1 e2 e3 e4
      go_wp2_with fail
      exact ⟨⟨k + 1, Hlt.out, by go_num, HStep.out _ HI3.out _ _ _ _ _ _ (by have := HI1.out.lt; simp; omega) HV.out⟩, by have := Hlt.out; simp [intOf]; omega⟩
    · have hlA : ¬ (k : Int) < (X.parts.length : Int) := by omega
      have hke : k = X.parts.length := by omega
      subst hke
      obtain ⟨e0, e1, e2, e3, e4, r0, r1, r2, r3, r4, hf, hw⟩ := hI.st
      have b3 := hI.fz 3
      have r5 := hf 0
      have r6 := hf 1
      have r7 := hf 2
      have r8 := hf 3
      have r9 := hf 4
      have Hw := Lib.hid hw
      clear hI hf hw hk hlt
      go_wp2_with fail
      refine bodyPost_ret (v := .agg #[.int .i64 X.kind, .int .i64 X.num, .string ⟨X.str.toArray⟩, .slice (some ⟨w1.heap.size, 0, none⟩) X.parts.length X.parts.length, .slice A1 X.keys.length c1]) (by simp [results, Tryz.results130, go_sem, e0, e1, e2, e3, e4, r0, r1, r2, r3, r4]) rfl ⟨_, rfl, HI1.out.finish ?_ HO.out.1 HO.out.2 h7 h5, five_sets (Hw.out.setCell (Nat.le_refl _) _) (Nat.le_succ _) _ _ _ _ _ _ _ _ _ _⟩
      exact six_fr _ (by omega) (by omega) _ _ _ _ _ _ _ _ _ _ _ _
end Go.Proofs.YtacaknkfddlklaaGreatDoor
namespace Go.Proofs.YtacaknkfddlklaaGreatDoor
open Go.RowKit Go.IntWalk

theorem zero_rd' (ok : Nat → Prop) (w : World) : RdV ok w (aggV 0 0) V.zero := RdV.plain 0 0 [] (i64ok_small (by decide) (by decide)) (i64ok_small (by decide) (by decide)) (by simp)
set_option maxRecDepth 20000 in
set_option maxHeartbeats 2000000 in
theorem value_Copy (X : V) (v : Value) (ok : Nat → Prop) (w : World) (hv : RdV ok w v X) :
    Calls Tryz.prog 107 #[v] w fun e w' => ∃ v', e = .returned v' ∧ RdV (newB w.heap.size) w' v' (if rightB X then X else V.zero) ∧ Below w.heap.size w w' := by
  obtain ⟨A1, c1, B1, d1, rfl, h1, h2, h3, h4, h5, h6, h7⟩ := hv.form
  have Hv := Lib.hid hv
  have HS := Lib.hid (DoSt.made w (.int .i64 X.kind) (.int .i64 X.num) (.string ⟨X.str.toArray⟩) (.slice A1 X.parts.length c1) (.slice B1 X.keys.length d1))
  have HR := Lib.hid (fun W hv => value_Right X (valV X A1 c1 B1 d1) ok W hv)
  have HT := Lib.hid (fun W hv => value_twin (SizeOf.sizeOf X) X (valV X A1 c1 B1 d1) ok W hv (Nat.le_refl _))
  clear hv
  cases hr : rightB X with
  | false =>
    rw [hr] at HR
    simp only [Bool.false_eq_true, if_false]
    clear hr
    go_enter Tryz.func107, Tryz.ntmps107
    go_wp2_with fail
    refine (HR.out _ (Hv.out.below (two_alloc _ _ _))).mono ?_
    rintro e w1 ⟨rfl, hb⟩
    obtain ⟨h0, h1, h2, h3, h4, r0, r1, r2, r3, r4, hf, hw⟩ := HS.out.below hb
    have hf0 := hf 0
    have hf1 := hf 1
    have hf2 := hf 2
    have hf3 := hf 3
    have hf4 := hf 4
    have Hw := Lib.hid hw
    clear hb hw hf
    go_wp2_with fail
    refine bodyPost_ret (v := aggV 0 0) (by simp [results, Tryz.results107, go_sem, r0, r1, r2, r3, r4]) rfl ⟨_, rfl, zero_rd' _ _, five_sets Hw.out (Nat.le_succ _) _ _ _ _ _ _ _ _ _ _⟩
  | true =>
    rw [hr] at HR
    simp only [if_true]
    clear hr
    go_enter Tryz.func107, Tryz.ntmps107
    go_wp2_with fail
    refine (HR.out _ (Hv.out.below (two_alloc _ _ _))).mono ?_
    rintro e w1 ⟨rfl, hb⟩
    have HS1 := Lib.hid (HS.out.below hb)
    have Hv1 := Lib.hid (Hv.out.below (bthen (two_alloc _ _ _) hb))
    clear hb
    obtain ⟨h0, h1, h2, h3, h4, r0, r1, r2, r3, r4, hf, hw⟩ := HS1.out
    go_wp2_with fail
    refine (HT.out _ Hv1.out).mono ?_
    rintro e w2 ⟨v', rfl, hv', hb⟩
    obtain ⟨A2, c2, B2, d2, rfl, _⟩ := hv'.form
    have HV := Lib.hid hv'
    have Hwt := Lib.hid hw
    have HS2 := Lib.hid (HS1.out.below hb)
    have Hlt := Lib.hid (lt_of_cell r0)
    clear hv' hb hf hw h0 h1 h2 h3 h4 r0 r1 r2 r3 r4
    obtain ⟨h0, h1, h2, h3, h4, r0, r1, r2, r3, r4, hf, hw⟩ := HS2.out
    have hf0 := hf 0
    have hf1 := hf 1
    have hf2 := hf 2
    have hf3 := hf 3
    have hf4 := hf 4
    have Hw := Lib.hid hw
    clear hw hf
    go_wp2_with fail
    refine bodyPost_ret (v := valV X A2 c2 B2 d2) (by simp [results, Tryz.results107, go_sem, r0, r1, r2, r3, r4]) rfl ⟨_, rfl, ans_sets HV.out Hlt.out (Nat.lt_succ_self _) Hwt.out.size _ _ _ _ _ _ _ _ _ _, five_sets Hw.out (Nat.le_succ _) _ _ _ _ _ _ _ _ _ _⟩
set_option maxRecDepth 20000 in
set_option maxHeartbeats 2000000 in
theorem prim_sized (X : V) (v : Value) (ok : Nat → Prop) (w : World) (hv : RdV ok w v X) :
    Calls Tryz.prog 66 #[v] w (AnsPost w (if rightB X then X else V.zero) (if rightB X then 0 else 5)) := by
  obtain ⟨A1, c1, B1, d1, rfl, h1, h2, h3, h4, h5, h6, h7⟩ := hv.form
  have Hv := Lib.hid hv
  have HS := Lib.hid (DoSt.made w (.int .i64 X.kind) (.int .i64 X.num) (.string ⟨X.str.toArray⟩) (.slice A1 X.parts.length c1) (.slice B1 X.keys.length d1))
  have HR := Lib.hid (fun W hv => value_Right X (valV X A1 c1 B1 d1) ok W hv)
  have HT := Lib.hid (fun W hv => value_Copy X (valV X A1 c1 B1 d1) ok W hv)
  clear hv
  cases hr : rightB X with
  | false =>
    rw [hr] at HR
    simp only [Bool.false_eq_true, if_false]
    clear hr HT
    go_enter Tryz.func66, Tryz.ntmps66
    go_wp2_with fail
    refine (HR.out _ (Hv.out.below (two_alloc _ _ _))).mono ?_
    rintro e w1 ⟨rfl, hb⟩
    have HS1 := Lib.hid (HS.out.below hb)
    clear hb
    go_wp2_with fail
    refine (prim_trapped _ _).mono ?_
    rintro e wn ⟨rfl, rfl⟩
    obtain ⟨h0, h1, h2, h3, h4, r0, r1, r2, r3, r4, hf, hw⟩ := HS1.out.below ((Below.refl _ _).alloc (Nat.le_refl _) (cellsV 0 0))
    have hf0 := hf 0
    have hf1 := hf 1
    have hf2 := hf 2
    have hf3 := hf 3
    have hf4 := hf 4
    have Hw := Lib.hid hw
    clear hw hf
    go_wp2_with fail
    refine bodyPost_ret (v := .tuple #[aggV 0 0, .int .i64 5]) ?_ rfl ⟨_, rfl, zero_rd' _ _, five_sets Hw.out (Nat.le_succ _) _ _ _ _ _ _ _ _ _ _⟩
    rw [results_cell_tmp rfl]
    go_simp
  | true =>
    rw [hr] at HR HT
    simp only [if_true] at HT ⊢
    clear hr
    go_enter Tryz.func66, Tryz.ntmps66
    go_wp2_with fail
    refine (HR.out _ (Hv.out.below (two_alloc _ _ _))).mono ?_
    rintro e w1 ⟨rfl, hb⟩
    have HS1 := Lib.hid (HS.out.below hb)
    have Hv1 := Lib.hid (Hv.out.below (bthen (two_alloc _ _ _) hb))
    clear hb
    obtain ⟨h0, h1, h2, h3, h4, r0, r1, r2, r3, r4, hf, hw⟩ := HS1.out
    go_wp2_with fail
    refine (HT.out _ Hv1.out).mono ?_
    rintro e w2 ⟨v', rfl, hv', hb⟩
    obtain ⟨A2, c2, B2, d2, rfl, _⟩ := hv'.form
    have HV := Lib.hid hv'
    have Hwt := Lib.hid hw
    have HS2 := Lib.hid (HS1.out.below hb)
    have Hlt := Lib.hid (lt_of_cell r0)
    clear hv' hb hf hw h0 h1 h2 h3 h4 r0 r1 r2 r3 r4
    obtain ⟨h0, h1, h2, h3, h4, r0, r1, r2, r3, r4, hf, hw⟩ := HS2.out
    have hf0 := hf 0
    have hf1 := hf 1
    have hf2 := hf 2
    have hf3 := hf 3
    have hf4 := hf 4
    have Hw := Lib.hid hw
    clear hw hf
    go_wp2_with fail
    refine bodyPost_ret (v := .tuple #[valV X A2 c2 B2 d2, .int .i64 0]) ?_ rfl ⟨_, rfl, ans_sets HV.out Hlt.out (Nat.lt_succ_self _) Hwt.out.size _ _ _ _ _ _ _ _ _ _, five_sets Hw.out (Nat.le_succ _) _ _ _ _ _ _ _ _ _ _⟩
    rw [results_cell_tmp rfl]
    go_simp
set_option maxRecDepth 20000 in
set_option maxHeartbeats 1000000 in
theorem prim_text (w : World) (s : ByteArray) :
    Calls Tryz.prog 111 #[.string s] w fun e w' => e = .returned (.tuple #[.agg #[.int .i64 3, .int .i64 0, .string s, .slice none 0 0, .slice none 0 0], .int .i64 0]) ∧ w' = w.alloc (.cells #[.int .i64 3, .int .i64 0, .string s, .slice none 0 0, .slice none 0 0] 25) := by
  go_enter Tryz.func111, Tryz.ntmps111
  go_wp2
  refine bodyPost_ret (v := .tuple #[.agg #[.int .i64 3, .int .i64 0, .string s, .slice none 0 0, .slice none 0 0], .int .i64 0]) ?_ rfl ⟨rfl, rfl⟩
  rw [results_cell_tmp rfl]
  go_simp
/-- how many parts; none: below 0 -/
def longS (X : V) : Int := if X.kind = 3 then X.str.length else if X.kind = 4 ∨ X.kind = 5 then X.parts.length else 0
def hasLong (X : V) : Bool := decide (X.kind = 3) || (decide (X.kind = 4) || decide (X.kind = 5))
set_option maxRecDepth 20000 in
set_option maxHeartbeats 1000000 in
theorem prim_size (X : V) (v : Value) (ok : Nat → Prop) (w : World) (hv : RdV ok w v X) :
    Calls Tryz.prog 71 #[v] w fun e w' => e = .returned (.tuple #[.int .i64 (longS X), .bool (hasLong X)]) ∧ Below w.heap.size w w' := by
  obtain ⟨A1, c1, B1, d1, rfl, h1, h2, h3, h4, h5, h6, h7⟩ := hv.form
  clear hv
  have hb1 := fun O => (Below.refl w.heap.size w).alloc (Nat.le_refl _) O
  have HB := Lib.hid hb1
  have hsl : (List.length X.str : Int) ≤ 16777216 := by omega
  clear hb1
  by_cases k3 : X.kind = 3
  · have hl : longS X = X.str.length := by simp [longS, k3]
    have hh : hasLong X = true := by simp [hasLong, k3]
    rw [hl, hh]
    have g3 : (X.kind == 3) = true := by simpa using k3
    clear hl hh k3
    go_enter Tryz.func71, Tryz.ntmps71
    go_wp2_with fail
    refine bodyPost_ret (v := .tuple #[.int .i64 (X.str.length : Int), .bool true]) (by simp [results, Tryz.results71, go_sem]) rfl ⟨rfl, HB.out _⟩
  · have g3 : (X.kind == 3) = false := by simpa using k3
    by_cases k4 : X.kind = 4
    · have hl : longS X = X.parts.length := by simp [longS, k4]
      have hh : hasLong X = true := by simp [hasLong, k4]
      rw [hl, hh]
      have g4 : (X.kind == 4) = true := by simpa using k4
      clear hl hh k3 k4
      go_enter Tryz.func71, Tryz.ntmps71
      go_wp2_with fail
      refine bodyPost_ret (v := .tuple #[.int .i64 (X.parts.length : Int), .bool true]) (by simp [results, Tryz.results71, go_sem]) rfl ⟨rfl, HB.out _⟩
    · have g4 : (X.kind == 4) = false := by simpa using k4
      by_cases k5 : X.kind = 5
      · have hl : longS X = X.parts.length := by simp [longS, k5]
        have hh : hasLong X = true := by simp [hasLong, k5]
        rw [hl, hh]
        have g5 : (X.kind == 5) = true := by simpa using k5
        clear hl hh k3 k4 k5
        go_enter Tryz.func71, Tryz.ntmps71
        go_wp2_with fail
        refine bodyPost_ret (v := .tuple #[.int .i64 (X.parts.length : Int), .bool true]) (by simp [results, Tryz.results71, go_sem]) rfl ⟨rfl, HB.out _⟩
      · have hl : longS X = 0 := by simp [longS, k3, k4, k5]
        have hh : hasLong X = false := by simp [hasLong, k3, k4, k5]
        rw [hl, hh]
        have g5 : (X.kind == 5) = false := by simpa using k5
        clear hl hh k3 k4 k5
        go_enter Tryz.func71, Tryz.ntmps71
        go_wp2_with fail
        refine bodyPost_ret (v := .tuple #[.int .i64 0, .bool false]) (by simp [results, Tryz.results71, go_sem]) rfl ⟨rfl, HB.out _⟩
set_option maxRecDepth 20000 in
set_option maxHeartbeats 1000000 in
theorem prim_row (X : V) (v : Value) (ok : Nat → Prop) (w : World) (hv : RdV ok w v X) :
    Calls Tryz.prog 109 #[v] w fun e w' => e = .returned (.bool (decide (X.kind = 4) || decide (X.kind = 3))) ∧ Below w.heap.size w w' := by
  obtain ⟨A1, c1, B1, d1, rfl, h1, h2, h3, h4, h5, h6, h7⟩ := hv.form
  clear hv
  have HB := Lib.hid (fun O => (Below.refl w.heap.size w).alloc (Nat.le_refl _) O)
  by_cases k4 : X.kind = 4
  · rw [show (decide (X.kind = 4) || decide (X.kind = 3)) = true by simp [k4]]
    have g4 : (X.kind == 4) = true := by simpa using k4
    clear k4
    go_enter Tryz.func109, Tryz.ntmps109
    go_wp2_with fail
    go_ret
    exact ⟨rfl, HB.out _⟩
  · have g4 : (X.kind == 4) = false := by simpa using k4
    by_cases k3 : X.kind = 3
    · rw [show (decide (X.kind = 4) || decide (X.kind = 3)) = true by simp [k3]]
      have g3 : (X.kind == 3) = true := by simpa using k3
      clear k4 k3
      go_enter Tryz.func109, Tryz.ntmps109
      go_wp2_with fail
      go_ret
      exact ⟨rfl, HB.out _⟩
    · rw [show (decide (X.kind = 4) || decide (X.kind = 3)) = false by simp [k3, k4]]
      have g3 : (X.kind == 3) = false := by simpa using k3
      clear k4 k3
      go_enter Tryz.func109, Tryz.ntmps109
      go_wp2_with fail
      go_ret
      exact ⟨rfl, HB.out _⟩
end Go.Proofs.YtacaknkfddlklaaGreatDoor
namespace Go.Proofs.YtacaknkfddlklaaGreatDoor
open Go.RowKit

theorem run_append_zero {P : Program} {w : World} (base : Nat) (t ty e : TypeId) (i : TypeInfo) (size : Nat) (ht : P.underlying t = some (.slice e)) (hi : P.info? e = some i)
    (v : Value) (n : Nat) (xs : List Value) (hown : w.ownsRow base e size v n xs) (A : Option Addr) (c : Nat) :
    (Builtin.append_ #[t, t] ty #[v, .slice A 0 c]).run P w = .ok v w := by
  rcases hown.2 with ⟨rfl, rfl⟩ | ⟨g, cap, cur, rfl, _, _, hnc, _⟩
  · exact run_append_none t ty e i ht hi A c
  · cases A <;> simp [Builtin.append_, run_underlying ht, sizeOf, typeInfo, hi, Builtin.lenOf, Builtin.firstCells, hnc, storeCells, go_sem]
/-- append(v, l...): v is owned -/
theorem run_append_gen {P : Program} {w : World} (t ty : TypeId) {e : TypeId} {z : Value} {size bytes : Nat} (hinfo : (P.info? e).map (fun i => (i.zero, i.size, i.bytes)) = some (some z, size, bytes)) (ht : P.underlying t = some (.slice e))
    (hzs : z.cells.size = size) (hsz : 0 < size) (hb0 : 0 < bytes) {ok : Nat → Prop} {v : Value} {n : Nat} {cs : List Value} (HO : OwnR e size ok w v n cs) (A : Option Addr) (m c : Nat) (news : List Value) (hl : news.length = m * size)
    (hA : 0 < m → ∃ g off, A = some ⟨g, off, none⟩ ∧ ∀ j u, news[j]? = some u → w.cell? ⟨g, off + j, none⟩ = some u) (h1 : ∀ u ∈ news, u.oneCell' = true) (hbytes : (n + m) * bytes ≤ 140737488355328) (hnew : ∀ k, w.heap.size ≤ k → ok k) :
    ∃ v' w', (Builtin.append_ #[t, t] ty #[v, .slice A m c]).run P w = .ok v' w' ∧ OwnR e size ok w' v' (n + m) (cs ++ news) ∧ w.grownBy w' v.ownBlock := by
  obtain ⟨i, hi, hz0, hz1, hz2⟩ := info_parts hinfo
  by_cases hm : m = 0
  · subst hm
    have hnil : news = [] := List.length_eq_zero_iff.1 (by simpa using hl)
    subst hnil
    rw [List.append_nil]
    exact ⟨v, w, run_append_zero 0 t ty e i size ht hi v n cs HO.row A c, HO, ⟨rfl, rfl, rfl, Nat.le_refl _, fun _ _ _ => rfl⟩⟩
  · obtain ⟨g, off, rfl, hc⟩ := hA (Nat.pos_of_ne_zero hm)
    have hnm : n + m ≤ 140737488355328 := Nat.le_trans (Nat.le_mul_of_pos_right _ hb0) hbytes
    obtain ⟨v', w', hr, hown, hg, _, hat⟩ := run_append_own_at (P := P) w 0 t ty e i z size bytes ht hi hz0 hz1 hz2 (by rw [← hzs]) hsz v n cs HO.row ⟨g, off, none⟩ m c news hl
      (fun j u hj => by have := hc j u hj; unfold Addr.add; split <;> simp_all) h1 (by unfold maxLen; omega) hbytes (Nat.zero_le _)
    refine ⟨v', w', hr, ⟨hown, fun k hk => ?_⟩, hg⟩
    rcases hat with hat | hat
    · exact HO.blk k (hat ▸ hk)
    · rw [hat] at hk
      injection hk with hk
      exact hnew k (Nat.le_of_eq hk)
/-- at a step of a region that draws -/
theorem step_append_gen {P : Program} {w : World} {ops : Array Oper} {o : Oper} {a : Act} {K : Act → World → Prop} {Q : Exit → Act → World → Prop} {E : Prop} (hgd : o.guard = none) (s x : Operand) (t : TypeId)
    (ho : o.op = .call { callee := .builtin .append, args := #[s, x], argTypes := #[t, t] }) {e : TypeId} {z : Value} {size bytes : Nat} (hinfo : (P.info? e).map (fun i => (i.zero, i.size, i.bytes)) = some (some z, size, bytes)) (ht : P.underlying t = some (.slice e))
    (hzs : z.cells.size = size) (hsz : 0 < size) (hb0 : 0 < bytes) {ok : Nat → Prop} {v : Value} {n : Nat} {cs : List Value} (hs : a.eval s = v) (HO : OwnR e size ok w v n cs) (A : Option Addr) (m c : Nat) (news : List Value) (hx : a.eval x = .slice A m c) (hl : news.length = m * size)
    (hA : 0 < m → ∃ g off, A = some ⟨g, off, none⟩ ∧ ∀ j u, news[j]? = some u → w.cell? ⟨g, off + j, none⟩ = some u) (h1 : ∀ u ∈ news, u.oneCell' = true) (hbytes : (n + m) * bytes ≤ 140737488355328) (hnew : ∀ k, w.heap.size ≤ k → ok k)
    (h : ∀ v' w', OwnR e size ok w' v' (n + m) (cs ++ news) → w.grownBy w' v.ownBlock → K (a.put o.dst v') w') :
    if Region.wanted o (yielded ops a.tmps) = true then Oper.wp P o a w K Q else E := by
  have hw : Region.wanted o (yielded ops a.tmps) = true := by simp [Region.wanted, hgd]
  rw [if_pos hw]
  obtain ⟨v', w', hr, h2, h3⟩ := run_append_gen (P := P) (w := w) t o.type hinfo ht hzs hsz hb0 HO A m c news hl hA h1 hbytes hnew
  unfold Oper.wp
  simp only [execOp, ho, resolve, invoke, builtin, Sem.run_bind, Sem.run_pure, Result.andThen_ok, List.map_toArray, List.map_cons, List.map_nil, hs, hx, hr]
  exact h v' w' h2 h3
/-- at a plain region's list -/
theorem wpList_append_gen {P : Program} {w : World} {ops : Array Oper} {rest : List Oper} {o : Oper} {a : Act} {Q : Exit → Act → World → Prop} (hgd : o.guard = none) (s x : Operand) (t : TypeId)
    (ho : o.op = .call { callee := .builtin .append, args := #[s, x], argTypes := #[t, t] }) {e : TypeId} {z : Value} {size bytes : Nat} (hinfo : (P.info? e).map (fun i => (i.zero, i.size, i.bytes)) = some (some z, size, bytes)) (ht : P.underlying t = some (.slice e))
    (hzs : z.cells.size = size) (hsz : 0 < size) (hb0 : 0 < bytes) {ok : Nat → Prop} {v : Value} {n : Nat} {cs : List Value} (hs : a.eval s = v) (HO : OwnR e size ok w v n cs) (A : Option Addr) (m c : Nat) (news : List Value) (hx : a.eval x = .slice A m c) (hl : news.length = m * size)
    (hA : 0 < m → ∃ g off, A = some ⟨g, off, none⟩ ∧ ∀ j u, news[j]? = some u → w.cell? ⟨g, off + j, none⟩ = some u) (h1 : ∀ u ∈ news, u.oneCell' = true) (hbytes : (n + m) * bytes ≤ 140737488355328) (hnew : ∀ k, w.heap.size ≤ k → ok k)
    (h : ∀ v' w', OwnR e size ok w' v' (n + m) (cs ++ news) → w.grownBy w' v.ownBlock → wpList P ops Q rest (a.put o.dst v') w') : wpList P ops Q (o :: rest) a w := by
  refine wpList_plain hgd fun K hK => ?_
  obtain ⟨v', w', hr, h2, h3⟩ := run_append_gen (P := P) (w := w) t o.type hinfo ht hzs hsz hb0 HO A m c news hl hA h1 hbytes hnew
  unfold Oper.wp
  simp only [execOp, ho, resolve, invoke, builtin, Sem.run_bind, Sem.run_pure, Result.andThen_ok, List.map_toArray, List.map_cons, List.map_nil, hs, hx, hr]
  exact hK _ _ (h v' w' h2 h3)

/-- cells that read as these values -/
structure Elems (ok : Nat → Prop) (w : World) (news : List Value) (l : List V) : Prop where
  len : news.length = l.length * 5
  at_ : ∀ j (hj : j < l.length), ∃ c0 c1 c2 c3 c4, news[j * 5]? = some c0 ∧ news[j * 5 + 1]? = some c1 ∧ news[j * 5 + 2]? = some c2 ∧ news[j * 5 + 3]? = some c3 ∧ news[j * 5 + 4]? = some c4 ∧ RdV ok w (.agg #[c0, c1, c2, c3, c4]) l[j]
  one : ∀ u ∈ news, u.oneCell' = true
theorem Elems.nil (ok : Nat → Prop) (w : World) : Elems ok w [] [] := ⟨rfl, fun j hj => absurd hj (by simp), by simp⟩
theorem RdV.ones {ok : Nat → Prop} {w : World} {c0 c1 c2 c3 c4 : Value} {X : V} (h : RdV ok w (.agg #[c0, c1, c2, c3, c4]) X) : ∀ u ∈ [c0, c1, c2, c3, c4], u.oneCell' = true := by
  obtain ⟨A, c, B, d, he, _⟩ := h.form
  injection he with he
  simp only [Array.mk.injEq, List.cons.injEq, and_true] at he
  obtain ⟨rfl, rfl, rfl, rfl, rfl⟩ := he
  intro u hu
  simp only [List.mem_cons, List.not_mem_nil, or_false] at hu
  rcases hu with rfl | rfl | rfl | rfl | rfl <;> rfl
theorem Elems.cons {ok : Nat → Prop} {w : World} {news : List Value} {l : List V} {c0 c1 c2 c3 c4 : Value} {X : V} (h0 : RdV ok w (.agg #[c0, c1, c2, c3, c4]) X) (h : Elems ok w news l) : Elems ok w (c0 :: c1 :: c2 :: c3 :: c4 :: news) (X :: l) := by
  refine ⟨by have := h.len; simp only [List.length_cons]; omega, fun j hj => ?_, fun u hu => ?_⟩
  · cases j with
    | zero => exact ⟨c0, c1, c2, c3, c4, rfl, rfl, rfl, rfl, rfl, h0⟩
    | succ j =>
      obtain ⟨d0, d1, d2, d3, d4, e0, e1, e2, e3, e4, hr⟩ := h.at_ j (by simpa using hj)
      have hs : (j + 1) * 5 = j * 5 + 5 := by omega
      refine ⟨d0, d1, d2, d3, d4, ?_, ?_, ?_, ?_, ?_, hr⟩ <;> simp only [hs] <;> assumption
  · have := h0.ones u
    simp only [List.mem_cons] at hu
    simp only [List.mem_cons, List.not_mem_nil, or_false] at this
    rcases hu with h1 | h1 | h1 | h1 | h1 | h1
    · exact this (Or.inl h1)
    · exact this (Or.inr (Or.inl h1))
    · exact this (Or.inr (Or.inr (Or.inl h1)))
    · exact this (Or.inr (Or.inr (Or.inr (Or.inl h1))))
    · exact this (Or.inr (Or.inr (Or.inr (Or.inr h1))))
    · exact h.one u h1
theorem Elems.tail {ok : Nat → Prop} {w : World} {news : List Value} {X : V} {l : List V} (h : Elems ok w news (X :: l)) : ∃ c0 c1 c2 c3 c4 r, news = c0 :: c1 :: c2 :: c3 :: c4 :: r ∧ RdV ok w (.agg #[c0, c1, c2, c3, c4]) X ∧ Elems ok w r l := by
  have hl := h.len
  match news, h with
  | [], h => simp at hl
  | [_], h => simp at hl; omega
  | [_, _], h => simp at hl; omega
  | [_, _, _], h => simp at hl; omega
  | [_, _, _, _], h => simp at hl; omega
  | c0 :: c1 :: c2 :: c3 :: c4 :: r, h =>
    obtain ⟨d0, d1, d2, d3, d4, e0, e1, e2, e3, e4, hr⟩ := h.at_ 0 (by simp)
    simp at e0 e1 e2 e3 e4
    subst e0 e1 e2 e3 e4
    refine ⟨c0, c1, c2, c3, c4, r, rfl, hr, ⟨by simp at hl; omega, fun j hj => ?_, fun u hu => h.one u (by simp [hu])⟩⟩
    obtain ⟨d0, d1, d2, d3, d4, e0, e1, e2, e3, e4, hr⟩ := h.at_ (j + 1) (by simpa using hj)
    have hs : (j + 1) * 5 = j * 5 + 5 := by omega
    simp only [hs] at e0 e1 e2 e3 e4
    exact ⟨d0, d1, d2, d3, d4, by simpa using e0, by simpa using e1, by simpa using e2, by simpa using e3, by simpa using e4, by simpa using hr⟩
theorem Elems.append {ok : Nat → Prop} {w : World} : ∀ {l k : List V} {a b : List Value}, Elems ok w a l → Elems ok w b k → Elems ok w (a ++ b) (l ++ k)
  | [], k, a, b, ha, hb => by
    have : a = [] := List.length_eq_zero_iff.1 (by simpa using ha.len)
    subst this
    exact hb
  | X :: l, k, a, b, ha, hb => by
    obtain ⟨c0, c1, c2, c3, c4, r, rfl, hr, ht⟩ := ha.tail
    exact (ht.append hb).cons hr
theorem Elems.below {ok : Nat → Prop} {w w1 : World} {a : List Value} {l : List V} (h : Elems ok w a l) (hb : Below w.heap.size w w1) : Elems ok w1 a l :=
  ⟨h.len, fun j hj => by obtain ⟨d0, d1, d2, d3, d4, e0, e1, e2, e3, e4, hr⟩ := h.at_ j hj; exact ⟨d0, d1, d2, d3, d4, e0, e1, e2, e3, e4, hr.below hb⟩, h.one⟩
theorem Elems.fr {ok ok' : Nat → Prop} {w w1 : World} {a : List Value} {l : List V} (h : Elems ok w a l) (hf : Fr ok' w w1) (hn : ∀ b, b < w.heap.size → ok b → ¬ ok' b) : Elems ok w1 a l :=
  ⟨h.len, fun j hj => by obtain ⟨d0, d1, d2, d3, d4, e0, e1, e2, e3, e4, hr⟩ := h.at_ j hj; exact ⟨d0, d1, d2, d3, d4, e0, e1, e2, e3, e4, hr.fr hf hn⟩, h.one⟩
theorem Elems.imp {ok ok' : Nat → Prop} {w : World} {a : List Value} {l : List V} (h : Elems ok w a l) (hk : ∀ b, ok b → ok' b) : Elems ok' w a l :=
  ⟨h.len, fun j hj => by obtain ⟨d0, d1, d2, d3, d4, e0, e1, e2, e3, e4, hr⟩ := h.at_ j hj; exact ⟨d0, d1, d2, d3, d4, e0, e1, e2, e3, e4, hr.imp hk⟩, h.one⟩
/-- a row of values: its cells -/
theorem RdVs.elems {ok : Nat → Prop} {w : World} {A : Option Addr} {n c : Nat} : ∀ {l : List V} {i : Nat}, RdVs ok w (.slice A n c) i l → ∃ news, Elems ok w news l ∧ (0 < l.length → ∃ g off, A = some ⟨g, off, none⟩ ∧ ∀ j u, news[j]? = some u → w.cell? ⟨g, off + i * 5 + j, none⟩ = some u)
  | [], i, h => ⟨[], Elems.nil _ _, fun h0 => absurd h0 (by simp)⟩
  | X :: l, i, h => by
    unfold RdVs at h
    obtain ⟨⟨g, o, v, ⟨off, nn, cc, hv, ho, hg⟩, ⟨c0, c1, c2, c3, c4, rfl, e0, e1, e2, e3, e4⟩, hr⟩, ht⟩ := h
    injection hv with h1 _ _
    subst h1
    subst ho
    obtain ⟨news, hE, hc⟩ := RdVs.elems ht
    refine ⟨c0 :: c1 :: c2 :: c3 :: c4 :: news, hE.cons hr, fun _ => ⟨g, off, rfl, fun j u hj => ?_⟩⟩
    match j, hj with
    | 0, hj => simp at hj; subst hj; exact e0
    | 1, hj => simp at hj; subst hj; exact e1
    | 2, hj => simp at hj; subst hj; exact e2
    | 3, hj => simp at hj; subst hj; exact e3
    | 4, hj => simp at hj; subst hj; exact e4
    | j + 5, hj =>
      have hj' : news[j]? = some u := by simpa using hj
      have hpos : 0 < l.length := by
        have := (List.getElem?_eq_some_iff.1 hj').1
        have := hE.len
        omega
      obtain ⟨g', off', hA, hcell⟩ := hc hpos
      injection hA with hA
      injection hA with h2 h3
      subst h2 h3
      have := hcell j u hj'
      rwa [show off + (i + 1) * 5 + j = off + i * 5 + (j + 5) by omega] at this
/-- a row that is owned reads as the values -/
theorem RdVs.own {e : TypeId} {ok : Nat → Prop} {w : World} {v : Value} {news : List Value} {l : List V} (h : OwnR e 5 ok w v l.length news) (hE : Elems ok w news l) : RdVs ok w v 0 l := by
  refine RdVs.mk fun j hj => ?_
  obtain ⟨g, cap, rfl, hk, _, hcell⟩ := h.form (Nat.lt_of_le_of_lt (Nat.zero_le _) hj)
  obtain ⟨c0, c1, c2, c3, c4, e0, e1, e2, e3, e4, hr⟩ := hE.at_ j hj
  exact ⟨g, j * 5, _, ⟨0, _, _, rfl, by omega, hk⟩, ⟨c0, c1, c2, c3, c4, rfl, hcell _ _ e0, hcell _ _ e1, hcell _ _ e2, hcell _ _ e3, hcell _ _ e4⟩, hr⟩
theorem OwnR.slForm {e sz : Nat} {ok : Nat → Prop} {w : World} {v : Value} {n : Nat} {cs : List Value} (h : OwnR e sz ok w v n cs) (hn : n ≤ 16777216) : SlForm v n := by
  rcases h.row.2 with ⟨rfl, h0⟩ | ⟨g, cap, cur, rfl, _, _, hl, hm, _⟩
  · subst h0; exact ⟨none, 0, rfl, by simp, by omega, by simp⟩
  · exact ⟨_, cap, rfl, hl, by unfold maxLen at hm; omega, hn⟩
end Go.Proofs.YtacaknkfddlklaaGreatDoor
namespace Go.Proofs.YtacaknkfddlklaaGreatDoor
open Go.RowKit Go.IntWalk

def sizedS (X : V) : V × Int := if rightB X then (X, 0) else (V.zero, 5)
theorem sized_ans {w : World} {X : V} {e : Ending} {w' : World} (h : AnsPost w (if rightB X then X else V.zero) (if rightB X then 0 else 5) e w') : AnsPost w (sizedS X).1 (sizedS X).2 e w' := by
  unfold sizedS
  cases hr : rightB X <;> (rw [hr] at h; simpa using h)
/-- what add makes -/
def addS (X Y : V) : V × Int :=
  if X.kind = 2 ∧ Y.kind = 2 then (.mk 2 (wrap64 (X.num + Y.num)) [] [] [], 0)
  else if X.kind = 3 ∧ Y.kind = 3 then sizedS (.mk X.kind X.num (X.str ++ Y.str) X.parts X.keys)
  else if X.kind = 4 ∧ Y.kind = 4 then sizedS (.mk 4 0 [] (X.parts ++ Y.parts) [])
  else (V.zero, 3)
theorem Five.get {w : World} {g : Nat} {a0 a1 a2 a3 a4 : Value} (h : Five w g 0 (.agg #[a0, a1, a2, a3, a4])) : w.cell? ⟨g, 0, none⟩ = some a0 ∧ w.cell? ⟨g, 1, none⟩ = some a1 ∧ w.cell? ⟨g, 2, none⟩ = some a2 ∧ w.cell? ⟨g, 3, none⟩ = some a3 ∧ w.cell? ⟨g, 4, none⟩ = some a4 := by
  obtain ⟨x0, x1, x2, x3, x4, hx, e0, e1, e2, e3, e4⟩ := h
  injection hx with hx
  simp only [Array.mk.injEq, List.cons.injEq, and_true] at hx
  obtain ⟨rfl, rfl, rfl, rfl, rfl⟩ := hx
  exact ⟨e0, e1, e2, e3, e4⟩
/-- within add: behind its first line -/
structure AddSt (w : World) (x0 x1 x2 x3 x4 vX vY : Value) (ga gb : Nat) (wx : World) : Prop where
  st : DoSt w x0 x1 x2 x3 x4 wx
  fX : Five wx ga 0 vX
  fY : Five wx gb 0 vY
  melt : ∀ i, wx.frozen? ⟨ga, i, none⟩ = false
  ne : ga ≠ gb
  lo : w.heap.size + 1 < ga
theorem Five.new (w : World) (c0 c1 c2 c3 c4 : Value) (t : TypeId) {g : Nat} (hg : g = w.heap.size) : Five (w.alloc (.cells #[c0, c1, c2, c3, c4] t)) g 0 (.agg #[c0, c1, c2, c3, c4]) := by
  subst hg
  exact ⟨_, _, _, _, _, rfl, World.cell?_alloc_at _ _ _ _ rfl, World.cell?_alloc_at _ _ _ _ rfl, World.cell?_alloc_at _ _ _ _ rfl, World.cell?_alloc_at _ _ _ _ rfl, World.cell?_alloc_at _ _ _ _ rfl⟩
theorem addSt_1 (w : World) (x0 x1 x2 x3 x4 a0 a1 a2 a3 a4 b0 b1 b2 b3 b4 : Value) : AddSt w x0 x1 x2 x3 x4 (.agg #[a0, a1, a2, a3, a4]) (.agg #[b0, b1, b2, b3, b4]) (w.heap.size + 1 + 1) (w.heap.size + 1 + 1 + 1) ((((w.alloc (.cells #[x0, x1, x2, x3, x4] 25)).alloc (cellsV 0 0)).alloc (.cells #[a0, a1, a2, a3, a4] 25)).alloc (.cells #[b0, b1, b2, b3, b4] 25)).drew :=
  have nb := fun (W : World) (O : Obj) => (Below.refl W.heap.size W).alloc (Nat.le_refl _) O
  ⟨(((DoSt.made w x0 x1 x2 x3 x4).below (nb _ _)).below (nb _ _)).below (Below.refl _ _).drew, (((Five.new _ _ _ _ _ _ _ (by simp)).below (nb _ _)).below (Below.refl _ _).drew), (Five.new _ _ _ _ _ _ _ (by simp)).below (Below.refl _ _).drew,
    frozen_below (Below.refl _ _).drew (by simp) (frozen_below (nb _ _) (by simp) (fun i => by rw [show w.heap.size + 1 + 1 = ((w.alloc (.cells #[x0, x1, x2, x3, x4] 25)).alloc (cellsV 0 0)).heap.size by simp]; exact World.frozen?_alloc_at _ _ _ _ rfl)), by omega, by omega⟩
theorem addSt_2 (w : World) (x0 x1 x2 x3 x4 a0 a1 a2 a3 a4 b0 b1 b2 b3 b4 : Value) : AddSt w x0 x1 x2 x3 x4 (.agg #[a0, a1, a2, a3, a4]) (.agg #[b0, b1, b2, b3, b4]) (w.heap.size + 1 + 1 + 1) (w.heap.size + 1 + 1) ((((w.alloc (.cells #[x0, x1, x2, x3, x4] 25)).alloc (cellsV 0 0)).alloc (.cells #[b0, b1, b2, b3, b4] 25)).alloc (.cells #[a0, a1, a2, a3, a4] 25)).drew :=
  have nb := fun (W : World) (O : Obj) => (Below.refl W.heap.size W).alloc (Nat.le_refl _) O
  ⟨(((DoSt.made w x0 x1 x2 x3 x4).below (nb _ _)).below (nb _ _)).below (Below.refl _ _).drew, (Five.new _ _ _ _ _ _ _ (by simp)).below (Below.refl _ _).drew, (((Five.new _ _ _ _ _ _ _ (by simp)).below (nb _ _)).below (Below.refl _ _).drew),
    frozen_below (Below.refl _ _).drew (by simp) (fun i => by rw [show w.heap.size + 1 + 1 + 1 = (((w.alloc (.cells #[x0, x1, x2, x3, x4] 25)).alloc (cellsV 0 0)).alloc (.cells #[b0, b1, b2, b3, b4] 25)).heap.size by simp]; exact World.frozen?_alloc_at _ _ _ _ rfl), by omega, by omega⟩
theorem one_b (w : World) (X : Obj) : Below w.heap.size w (w.alloc X) := (Below.refl _ _).alloc (Nat.le_refl _) X
theorem RdV.restr {ok : Nat → Prop} {w : World} {X : V} {A B : Option Addr} {c d : Nat} {s : List UInt8} (h : RdV ok w (valV X A c B d) X) (hs : s.length ≤ 16777216) :
    RdV ok w (.agg #[.int .i64 X.kind, .int .i64 X.num, .string ⟨s.toArray⟩, .slice A X.parts.length c, .slice B X.keys.length d]) (.mk X.kind X.num s X.parts X.keys) := by
  obtain ⟨h0, h1, _, lv, kv, hv, h3, h4, h5⟩ := h.open
  injection hv with hv
  simp only [Array.mk.injEq, List.cons.injEq, and_true, true_and] at hv
  obtain ⟨rfl, rfl⟩ := hv
  exact RdV.close h0 h1 hs h3 h4 h5
theorem prim_sized' (X R : V) (t : Int) (hR : sizedS X = (R, t)) (v : Value) (ok : Nat → Prop) (w : World) (hv : RdV ok w v X) :
    Calls Tryz.prog 66 #[v] w (AnsPost w R t) :=
  (prim_sized X v ok w hv).mono fun e w' h => by
    have := sized_ans h
    rwa [hR] at this
theorem below_grown {a w1 w2 : World} {row : Option Nat} {N : Nat} (hb : Below N a w1) (hN : N = a.heap.size) (g : w1.grownBy w2 row) (hr : ∀ k, row = some k → N ≤ k) : Below N a w2 :=
  ⟨g.os.trans hb.os, g.tape.trans hb.tape, g.output.trans hb.output, Nat.le_trans hb.size g.size, fun k hk => (g.block k (Nat.lt_of_lt_of_le (hN ▸ hk) hb.size) (fun e => by have := hr k e.symm; omega)).trans (hb.block k hk)⟩
theorem cells_to {w W : World} {A : Option Addr} {n : Nat} {news : List Value} (h : 0 < n → ∃ g off, A = some ⟨g, off, none⟩ ∧ ∀ j u, news[j]? = some u → w.cell? ⟨g, off + 0 * 5 + j, none⟩ = some u) (hb : Below w.heap.size w W) : 0 < n → ∃ g off, A = some ⟨g, off, none⟩ ∧ ∀ j u, news[j]? = some u → W.cell? ⟨g, off + j, none⟩ = some u := by
  intro h0
  obtain ⟨g, off, hA, hc⟩ := h h0
  exact ⟨g, off, hA, fun j u hj => bcell hb (by simpa using hc j u hj)⟩
theorem arr_rd {e : TypeId} {ok ok1 : Nat → Prop} {w2 : World} {A3 : Option Addr} {c3 : Nat} {X Y : V} {nX nY : List Value} (h : OwnR e 5 ok w2 (.slice A3 (0 + X.parts.length + Y.parts.length) c3) (0 + X.parts.length + Y.parts.length) ([] ++ nX ++ nY)) (hX : Elems ok1 w2 nX X.parts) (hY : Elems ok1 w2 nY Y.parts) (hl : X.parts.length + Y.parts.length ≤ 16777216) :
    RdV (fun _ => True) w2 (.agg #[.int .i64 4, .int .i64 0, .string ⟨#[]⟩, .slice A3 (X.parts.length + Y.parts.length) c3, .slice none 0 0]) (.mk 4 0 [] (X.parts ++ Y.parts) []) := by
  rw [Nat.zero_add, List.nil_append] at h
  have hlen : (X.parts ++ Y.parts).length = X.parts.length + Y.parts.length := List.length_append
  have ho : OwnR e 5 (fun _ => True) w2 (.slice A3 (X.parts.length + Y.parts.length) c3) (X.parts ++ Y.parts).length (nX ++ nY) := by rw [hlen]; exact h.mono fun _ _ _ => trivial
  exact RdV.close (s := []) (i64ok_small (by decide) (by decide)) (i64ok_small (by decide) (by decide)) (by simp) (hlen ▸ h.slForm hl) (RdVs.own ho ((hX.append hY).imp fun _ _ => trivial)) (RdK.nil _ _ _ _ (by omega))
theorem six_allocs (w : World) (X Y Z U T S : Obj) : Below w.heap.size w ((((((w.alloc X).alloc Y).alloc Z).alloc U).drew.alloc T).alloc S) := (five_allocs w X Y Z U T).alloc (by simp; omega) S
theorem seven_allocs (w : World) (X Y Z U T S R : Obj) : Below w.heap.size w (((((((w.alloc X).alloc Y).alloc Z).alloc U).drew.alloc T).alloc S).alloc R) := (six_allocs w X Y Z U T S).alloc (by simp; omega) R
set_option maxRecDepth 20000 in
set_option maxHeartbeats 2000000 in
theorem prim_add_not (X Y : V) (n2 : ¬ (X.kind = 2 ∧ Y.kind = 2)) (n3 : ¬ (X.kind = 3 ∧ Y.kind = 3)) (n4 : ¬ (X.kind = 4 ∧ Y.kind = 4)) (x0 x1 x2 x3 x4 : Value) (A : Option Addr) (c : Nat) (ok : Nat → Prop) (w : World) (hls : RdVs ok w (.slice A 2 c) 0 [X, Y]) :
    Calls Tryz.prog 46 #[.agg #[x0, x1, x2, x3, x4], .slice A 2 c] w (PlainPost w 0 0 3) := by
  have K2 := Lib.hid (show (decide (X.kind = 2) && decide (Y.kind = 2)) = false by rw [Bool.eq_false_iff]; intro h; simp at h; exact n2 h)
  have K3 := Lib.hid (show (decide (X.kind = 3) && decide (Y.kind = 3)) = false by rw [Bool.eq_false_iff]; intro h; simp at h; exact n3 h)
  have K4 := Lib.hid (show (decide (X.kind = 4) && decide (Y.kind = 4)) = false by rw [Bool.eq_false_iff]; intro h; simp at h; exact n4 h)
  clear n2 n3 n4
  have Hls := Lib.hid hls
  obtain ⟨g, off, A1, c1, B1, d1, rfl, hog, hr0, e0, e1, e2, e3, e4⟩ := hls.elem 0 (by simp)
  obtain ⟨g', off', A2, c2, B2, d2, hgg, hog', hr1, f0, f1, f2, f3, f4⟩ := hls.elem 1 (by simp)
  injection hgg with hgg
  injection hgg with hg1 hg2
  subst hg1 hg2
  simp only [List.getElem_cons_zero, List.getElem_cons_succ, Nat.zero_mul, Nat.one_mul, Nat.add_zero] at e0 e1 e2 e3 e4 f0 f1 f2 f3 f4 hr0 hr1
  have E0 := fun X Y Z U => bcell (four_alloc w X Y Z U) e0
  have E1 := fun X Y Z U => bcell (four_alloc w X Y Z U) e1
  have E2 := fun X Y Z U => bcell (four_alloc w X Y Z U) e2
  have E3 := fun X Y Z U => bcell (four_alloc w X Y Z U) e3
  have E4 := fun X Y Z U => bcell (four_alloc w X Y Z U) e4
  have F0 := fun X Y Z U => bcell (four_alloc w X Y Z U) f0
  have F1 := fun X Y Z U => bcell (four_alloc w X Y Z U) f1
  have F2 := fun X Y Z U => bcell (four_alloc w X Y Z U) f2
  have F3 := fun X Y Z U => bcell (four_alloc w X Y Z U) f3
  have F4 := fun X Y Z U => bcell (four_alloc w X Y Z U) f4
  have P0 := fun X Y Z => bcell (three_alloc w X Y Z) e0
  have P1 := fun X Y Z => bcell (three_alloc w X Y Z) e1
  have P2 := fun X Y Z => bcell (three_alloc w X Y Z) e2
  have P3 := fun X Y Z => bcell (three_alloc w X Y Z) e3
  have P4 := fun X Y Z => bcell (three_alloc w X Y Z) e4
  have Q0 := fun X Y Z => bcell (three_alloc w X Y Z) f0
  have Q1 := fun X Y Z => bcell (three_alloc w X Y Z) f1
  have Q2 := fun X Y Z => bcell (three_alloc w X Y Z) f2
  have Q3 := fun X Y Z => bcell (three_alloc w X Y Z) f3
  have Q4 := fun X Y Z => bcell (three_alloc w X Y Z) f4
  have D0 := fun X Y => bcell (two_alloc w X Y) e0
  have D1 := fun X Y => bcell (two_alloc w X Y) e1
  have D2 := fun X Y => bcell (two_alloc w X Y) e2
  have D3 := fun X Y => bcell (two_alloc w X Y) e3
  have D4 := fun X Y => bcell (two_alloc w X Y) e4
  have G0 := fun X Y => bcell (two_alloc w X Y) f0
  have G1 := fun X Y => bcell (two_alloc w X Y) f1
  have G2 := fun X Y => bcell (two_alloc w X Y) f2
  have G3 := fun X Y => bcell (two_alloc w X Y) f3
  have G4 := fun X Y => bcell (two_alloc w X Y) f4
  have Hr0 := Lib.hid hr0
  have Hr1 := Lib.hid hr1
  have HS := Lib.hid (DoSt.made w x0 x1 x2 x3 x4)
  clear hls hog hog' hr0 hr1 e0 e1 e2 e3 e4 f0 f1 f2 f3 f4
  go_enter Tryz.func46, Tryz.ntmps46
  go_wp2_with fail
  go_upto_region 1 with fail
  go_cut [6, 7] (fun t6 t7 wx => ∃ ga gb, t6 = .pointer (some ⟨ga, 0, none⟩) ∧ t7 = .pointer (some ⟨gb, 0, none⟩) ∧ AddSt w x0 x1 x2 x3 x4 (valV X A1 c1 B1 d1) (valV Y A2 c2 B2 d2) ga gb wx)
  case first =>
    go_region
    all_goals go_wp2_with fail
    all_goals go_meet
    all_goals first
    | with_reducible exact ⟨_, _, rfl, rfl, addSt_1 _ _ _ _ _ _ _ _ _ _ _ _ _ _ _ _⟩
    | with_reducible exact ⟨_, _, rfl, rfl, addSt_2 _ _ _ _ _ _ _ _ _ _ _ _ _ _ _ _⟩
  case rest =>
    obtain ⟨ga, gb, rfl, rfl, hst⟩ := hcut
    have HA := Lib.hid hst
    have HW := Lib.hid hst.st.2.2.2.2.2.2.2.2.2.2.2
    clear hst E0 E1 E2 E3 E4 F0 F1 F2 F3 F4 P0 P1 P2 P3 P4 Q0 Q1 Q2 Q3 Q4 D0 D1 D2 D3 D4 G0 G1 G2 G3 G4 HS
    go_wp2_with fail
    have hk := fun (W : World) (p : Nat) hb h1 h2 => prim_kinds X Y 2 2 (some ⟨g, off, none⟩) c 2 p ok W (Hls.out.below hb) h1 h2
    refine (hk _ _ (bthen HW.out (one_b _ _)) (World.cell?_alloc_at _ _ _ _ (by simp)) (World.cell?_alloc_at _ _ _ _ (by simp))).mono ?_
    clear hk
    rw [K2.out]
    rintro e w1 ⟨rfl, rfl⟩
    go_wp2_with fail
    have hk := fun (W : World) (p : Nat) hb h1 h2 => prim_kinds X Y 3 3 (some ⟨g, off, none⟩) c 2 p ok W (Hls.out.below hb) h1 h2
    refine (hk _ _ (bthen HW.out (two_alloc _ _ _)) (World.cell?_alloc_at _ _ _ _ (by simp)) (World.cell?_alloc_at _ _ _ _ (by simp))).mono ?_
    clear hk
    rw [K3.out]
    rintro e w1 ⟨rfl, rfl⟩
    go_wp2_with fail
    have hk := fun (W : World) (p : Nat) hb h1 h2 => prim_kinds X Y 4 4 (some ⟨g, off, none⟩) c 2 p ok W (Hls.out.below hb) h1 h2
    refine (hk _ _ (bthen HW.out (three_alloc _ _ _ _)) (World.cell?_alloc_at _ _ _ _ (by simp)) (World.cell?_alloc_at _ _ _ _ (by simp))).mono ?_
    clear hk
    rw [K4.out]
    rintro e w1 ⟨rfl, rfl⟩
    go_wp2_with fail
    refine (prim_trapped _ _).mono ?_
    rintro e w1 ⟨rfl, rfl⟩
    obtain ⟨h0, h1, h2, h3, h4, r0, r1, r2, r3, r4, hf, hw⟩ := HA.out.st
    have R0 := fun X Y Z U => bcell (four_alloc wc X Y Z U) r0
    have R1 := fun X Y Z U => bcell (four_alloc wc X Y Z U) r1
    have R2 := fun X Y Z U => bcell (four_alloc wc X Y Z U) r2
    have R3 := fun X Y Z U => bcell (four_alloc wc X Y Z U) r3
    have R4 := fun X Y Z U => bcell (four_alloc wc X Y Z U) r4
    have hfa := fun X Y Z U => frozen_below (four_alloc wc X Y Z U) (lt_of_cell r0) hf
    clear hw hf h0 h1 h2 h3 h4
    go_wp2
    refine bodyPost_ret (v := .tuple #[aggV 0 0, .int .i64 3]) ?_ rfl ⟨rfl, five_sets (bthen HW.out (four_alloc _ _ _ _ _)) (Nat.le_succ _) _ _ _ _ _ _ _ _ _ _⟩
    rw [results_cell_tmp rfl]
    go_simp
set_option maxRecDepth 20000 in
set_option maxHeartbeats 2000000 in
theorem prim_add_str (X Y : V) (hX : X.kind = 3) (hY : Y.kind = 3) (hs1 : X.str.length ≤ 8388608) (hs2 : Y.str.length ≤ 8388608) (R : V) (t : Int) (hR : sizedS (.mk X.kind X.num (X.str ++ Y.str) X.parts X.keys) = (R, t)) (x0 x1 x2 x3 x4 : Value) (A : Option Addr) (c : Nat) (ok : Nat → Prop) (w : World) (hls : RdVs ok w (.slice A 2 c) 0 [X, Y]) :
    Calls Tryz.prog 46 #[.agg #[x0, x1, x2, x3, x4], .slice A 2 c] w (AnsPost w R t) := by
  have K2 := Lib.hid (show (decide (X.kind = 2) && decide (Y.kind = 2)) = false by simp [hX])
  have K3 := Lib.hid (show (decide (X.kind = 3) && decide (Y.kind = 3)) = true by simp [hX, hY])
  clear hX hY
  have HR := Lib.hid hR
  have hsl : (X.str ++ Y.str).length ≤ 16777216 := by rw [List.length_append]; omega
  have Hsl := Lib.hid hsl
  clear hR hsl
  have hadd := fun W => run_string_add_lists (P := Tryz.prog) W X.str Y.str (by omega) (by omega)
  have Hls := Lib.hid hls
  obtain ⟨g, off, A1, c1, B1, d1, rfl, hog, hr0, e0, e1, e2, e3, e4⟩ := hls.elem 0 (by simp)
  obtain ⟨g', off', A2, c2, B2, d2, hgg, hog', hr1, f0, f1, f2, f3, f4⟩ := hls.elem 1 (by simp)
  injection hgg with hgg
  injection hgg with hg1 hg2
  subst hg1 hg2
  simp only [List.getElem_cons_zero, List.getElem_cons_succ, Nat.zero_mul, Nat.one_mul, Nat.add_zero] at e0 e1 e2 e3 e4 f0 f1 f2 f3 f4 hr0 hr1
  have E0 := fun X Y Z U => bcell (four_alloc w X Y Z U) e0
  have E1 := fun X Y Z U => bcell (four_alloc w X Y Z U) e1
  have E2 := fun X Y Z U => bcell (four_alloc w X Y Z U) e2
  have E3 := fun X Y Z U => bcell (four_alloc w X Y Z U) e3
  have E4 := fun X Y Z U => bcell (four_alloc w X Y Z U) e4
  have F0 := fun X Y Z U => bcell (four_alloc w X Y Z U) f0
  have F1 := fun X Y Z U => bcell (four_alloc w X Y Z U) f1
  have F2 := fun X Y Z U => bcell (four_alloc w X Y Z U) f2
  have F3 := fun X Y Z U => bcell (four_alloc w X Y Z U) f3
  have F4 := fun X Y Z U => bcell (four_alloc w X Y Z U) f4
  have P0 := fun X Y Z => bcell (three_alloc w X Y Z) e0
  have P1 := fun X Y Z => bcell (three_alloc w X Y Z) e1
  have P2 := fun X Y Z => bcell (three_alloc w X Y Z) e2
  have P3 := fun X Y Z => bcell (three_alloc w X Y Z) e3
  have P4 := fun X Y Z => bcell (three_alloc w X Y Z) e4
  have Q0 := fun X Y Z => bcell (three_alloc w X Y Z) f0
  have Q1 := fun X Y Z => bcell (three_alloc w X Y Z) f1
  have Q2 := fun X Y Z => bcell (three_alloc w X Y Z) f2
  have Q3 := fun X Y Z => bcell (three_alloc w X Y Z) f3
  have Q4 := fun X Y Z => bcell (three_alloc w X Y Z) f4
  have D0 := fun X Y => bcell (two_alloc w X Y) e0
  have D1 := fun X Y => bcell (two_alloc w X Y) e1
  have D2 := fun X Y => bcell (two_alloc w X Y) e2
  have D3 := fun X Y => bcell (two_alloc w X Y) e3
  have D4 := fun X Y => bcell (two_alloc w X Y) e4
  have G0 := fun X Y => bcell (two_alloc w X Y) f0
  have G1 := fun X Y => bcell (two_alloc w X Y) f1
  have G2 := fun X Y => bcell (two_alloc w X Y) f2
  have G3 := fun X Y => bcell (two_alloc w X Y) f3
  have G4 := fun X Y => bcell (two_alloc w X Y) f4
  have Hr0 := Lib.hid hr0
  have Hr1 := Lib.hid hr1
  have HS := Lib.hid (DoSt.made w x0 x1 x2 x3 x4)
  clear hls hog hog' hr0 hr1 e0 e1 e2 e3 e4 f0 f1 f2 f3 f4
  go_enter Tryz.func46, Tryz.ntmps46
  go_wp2_with fail
  go_upto_region 1 with fail
  go_cut [6, 7] (fun t6 t7 wx => ∃ ga gb, t6 = .pointer (some ⟨ga, 0, none⟩) ∧ t7 = .pointer (some ⟨gb, 0, none⟩) ∧ AddSt w x0 x1 x2 x3 x4 (valV X A1 c1 B1 d1) (valV Y A2 c2 B2 d2) ga gb wx)
  case first =>
    go_region
    all_goals go_wp2_with fail
    all_goals go_meet
    all_goals first
    | with_reducible exact ⟨_, _, rfl, rfl, addSt_1 _ _ _ _ _ _ _ _ _ _ _ _ _ _ _ _⟩
    | with_reducible exact ⟨_, _, rfl, rfl, addSt_2 _ _ _ _ _ _ _ _ _ _ _ _ _ _ _ _⟩
  case rest =>
    obtain ⟨ga, gb, rfl, rfl, hst⟩ := hcut
    have HA := Lib.hid hst
    have HW := Lib.hid hst.st.2.2.2.2.2.2.2.2.2.2.2
    clear hst E0 E1 E2 E3 E4 F0 F1 F2 F3 F4 P0 P1 P2 P3 P4 Q0 Q1 Q2 Q3 Q4 D0 D1 D2 D3 D4 G0 G1 G2 G3 G4 HS
    go_wp2_with fail
    have hk := fun (W : World) (p : Nat) hb h1 h2 => prim_kinds X Y 2 2 (some ⟨g, off, none⟩) c 2 p ok W (Hls.out.below hb) h1 h2
    refine (hk _ _ (bthen HW.out (one_b _ _)) (World.cell?_alloc_at _ _ _ _ (by simp)) (World.cell?_alloc_at _ _ _ _ (by simp))).mono ?_
    clear hk
    rw [K2.out]
    rintro e w1 ⟨rfl, rfl⟩
    go_wp2_with fail
    have hk := fun (W : World) (p : Nat) hb h1 h2 => prim_kinds X Y 3 3 (some ⟨g, off, none⟩) c 2 p ok W (Hls.out.below hb) h1 h2
    refine (hk _ _ (bthen HW.out (two_alloc _ _ _)) (World.cell?_alloc_at _ _ _ _ (by simp)) (World.cell?_alloc_at _ _ _ _ (by simp))).mono ?_
    clear hk
    rw [K3.out]
    rintro e w1 ⟨rfl, rfl⟩
    have hX5 := HA.out.fX.get
    have hY5 := HA.out.fY.get
    have X0 := fun X Y => bcell (two_alloc wc X Y) hX5.1
    have X1 := fun X Y => bcell (two_alloc wc X Y) hX5.2.1
    have X2 := fun X Y => bcell (two_alloc wc X Y) hX5.2.2.1
    have X3 := fun X Y => bcell (two_alloc wc X Y) hX5.2.2.2.1
    have X4 := fun X Y => bcell (two_alloc wc X Y) hX5.2.2.2.2
    have Y2 := fun X Y => bcell (two_alloc wc X Y) hY5.2.2.1
    have hfa := fun X Y => frozen_below (two_alloc wc X Y) (lt_of_cell hX5.1) HA.out.melt
    clear hX5 hY5
    go_wp2_with fail
    have HBW := Lib.hid ((bthen HW.out (two_alloc wc (.cells #[.int .i64 2, .int .i64 2] 3) (.cells #[.int .i64 3, .int .i64 3] 3))).setCell (p := ⟨ga, 2, none⟩) (Nat.le_of_lt (Nat.lt_trans (Nat.lt_succ_self _) HA.out.lo)) (.string ⟨(X.str ++ Y.str).toArray⟩))
    have HSW := Lib.hid ((HA.out.st.below (two_alloc wc (.cells #[.int .i64 2, .int .i64 2] 3) (.cells #[.int .i64 3, .int .i64 3] 3))).fr ((Fr.refl (fun b => b = ga) _).setCell (p := ⟨ga, 2, none⟩) rfl (.string ⟨(X.str ++ Y.str).toArray⟩)) (fun b hb e => by have := HA.out.lo; omega))
    clear X0 X1 X2 X3 X4 Y2 hfa
    refine (prim_sized' _ R t HR.out _ ok _ ((Hr0.out.restr Hsl.out).below HBW.out)).mono ?_
    rintro e w5 ⟨v', rfl, hv', hb⟩
    obtain ⟨A5, c5, B5, d5, rfl, _⟩ := hv'.form
    have HV := Lib.hid hv'
    have HS5 := Lib.hid (HSW.out.below hb)
    have Hlt := Lib.hid (lt_of_cell HSW.out.2.2.2.2.2.1)
    clear hv' hb
    obtain ⟨h0, h1, h2, h3, h4, r0, r1, r2, r3, r4, hf, hw⟩ := HS5.out
    have hf0 := hf 0
    have hf1 := hf 1
    have hf2 := hf 2
    have hf3 := hf 3
    have hf4 := hf 4
    have Hw := Lib.hid hw
    clear hw hf
    go_wp2_with fail
    refine bodyPost_ret (v := .tuple #[valV R A5 c5 B5 d5, .int .i64 t]) ?_ rfl ⟨_, rfl, ans_sets HV.out Hlt.out (Nat.lt_succ_self _) HBW.out.size _ _ _ _ _ _ _ _ _ _, five_sets Hw.out (Nat.le_succ _) _ _ _ _ _ _ _ _ _ _⟩
    rw [results_cell_tmp rfl]
    go_simp
set_option maxRecDepth 20000 in
set_option maxHeartbeats 2000000 in
theorem prim_add_arr (X Y : V) (hX : X.kind = 4) (hY : Y.kind = 4) (hs1 : X.parts.length + Y.parts.length ≤ 16777216) (R : V) (t : Int) (hR : sizedS (.mk 4 0 [] (X.parts ++ Y.parts) []) = (R, t)) (x0 x1 x2 x3 x4 : Value) (A : Option Addr) (c : Nat) (ok : Nat → Prop) (w : World) (hls : RdVs ok w (.slice A 2 c) 0 [X, Y]) :
    Calls Tryz.prog 46 #[.agg #[x0, x1, x2, x3, x4], .slice A 2 c] w (AnsPost w R t) := by
  have K2 := Lib.hid (show (decide (X.kind = 2) && decide (Y.kind = 2)) = false by simp [hX, hY])
  have K3 := Lib.hid (show (decide (X.kind = 3) && decide (Y.kind = 3)) = false by simp [hX, hY])
  have K4 := Lib.hid (show (decide (X.kind = 4) && decide (Y.kind = 4)) = true by simp [hX, hY])
  have HR := Lib.hid hR
  have Hsl := Lib.hid hs1
  clear hX hY hR hs1
  have Hls := Lib.hid hls
  obtain ⟨g, off, A1, c1, B1, d1, rfl, hog, hr0, e0, e1, e2, e3, e4⟩ := hls.elem 0 (by simp)
  obtain ⟨g', off', A2, c2, B2, d2, hgg, hog', hr1, f0, f1, f2, f3, f4⟩ := hls.elem 1 (by simp)
  injection hgg with hgg
  injection hgg with hg1 hg2
  subst hg1 hg2
  simp only [List.getElem_cons_zero, List.getElem_cons_succ, Nat.zero_mul, Nat.one_mul, Nat.add_zero] at e0 e1 e2 e3 e4 f0 f1 f2 f3 f4 hr0 hr1
  have E0 := fun X Y Z U => bcell (four_alloc w X Y Z U) e0
  have E1 := fun X Y Z U => bcell (four_alloc w X Y Z U) e1
  have E2 := fun X Y Z U => bcell (four_alloc w X Y Z U) e2
  have E3 := fun X Y Z U => bcell (four_alloc w X Y Z U) e3
  have E4 := fun X Y Z U => bcell (four_alloc w X Y Z U) e4
  have F0 := fun X Y Z U => bcell (four_alloc w X Y Z U) f0
  have F1 := fun X Y Z U => bcell (four_alloc w X Y Z U) f1
  have F2 := fun X Y Z U => bcell (four_alloc w X Y Z U) f2
  have F3 := fun X Y Z U => bcell (four_alloc w X Y Z U) f3
  have F4 := fun X Y Z U => bcell (four_alloc w X Y Z U) f4
  have P0 := fun X Y Z => bcell (three_alloc w X Y Z) e0
  have P1 := fun X Y Z => bcell (three_alloc w X Y Z) e1
  have P2 := fun X Y Z => bcell (three_alloc w X Y Z) e2
  have P3 := fun X Y Z => bcell (three_alloc w X Y Z) e3
  have P4 := fun X Y Z => bcell (three_alloc w X Y Z) e4
  have Q0 := fun X Y Z => bcell (three_alloc w X Y Z) f0
  have Q1 := fun X Y Z => bcell (three_alloc w X Y Z) f1
  have Q2 := fun X Y Z => bcell (three_alloc w X Y Z) f2
  have Q3 := fun X Y Z => bcell (three_alloc w X Y Z) f3
  have Q4 := fun X Y Z => bcell (three_alloc w X Y Z) f4
  have D0 := fun X Y => bcell (two_alloc w X Y) e0
  have D1 := fun X Y => bcell (two_alloc w X Y) e1
  have D2 := fun X Y => bcell (two_alloc w X Y) e2
  have D3 := fun X Y => bcell (two_alloc w X Y) e3
  have D4 := fun X Y => bcell (two_alloc w X Y) e4
  have G0 := fun X Y => bcell (two_alloc w X Y) f0
  have G1 := fun X Y => bcell (two_alloc w X Y) f1
  have G2 := fun X Y => bcell (two_alloc w X Y) f2
  have G3 := fun X Y => bcell (two_alloc w X Y) f3
  have G4 := fun X Y => bcell (two_alloc w X Y) f4
  have Hr0 := Lib.hid hr0
  have Hr1 := Lib.hid hr1
  have HS := Lib.hid (DoSt.made w x0 x1 x2 x3 x4)
  clear hls hog hog' hr0 hr1 e0 e1 e2 e3 e4 f0 f1 f2 f3 f4
  go_enter Tryz.func46, Tryz.ntmps46
  go_wp2_with fail
  go_upto_region 1 with fail
  go_cut [6, 7] (fun t6 t7 wx => ∃ ga gb, t6 = .pointer (some ⟨ga, 0, none⟩) ∧ t7 = .pointer (some ⟨gb, 0, none⟩) ∧ AddSt w x0 x1 x2 x3 x4 (valV X A1 c1 B1 d1) (valV Y A2 c2 B2 d2) ga gb wx)
  case first =>
    go_region
    all_goals go_wp2_with fail
    all_goals go_meet
    all_goals first
    | with_reducible exact ⟨_, _, rfl, rfl, addSt_1 _ _ _ _ _ _ _ _ _ _ _ _ _ _ _ _⟩
    | with_reducible exact ⟨_, _, rfl, rfl, addSt_2 _ _ _ _ _ _ _ _ _ _ _ _ _ _ _ _⟩
  case rest =>
    obtain ⟨ga, gb, rfl, rfl, hst⟩ := hcut
    have HA := Lib.hid hst
    have HW := Lib.hid hst.st.2.2.2.2.2.2.2.2.2.2.2
    clear hst E0 E1 E2 E3 E4 F0 F1 F2 F3 F4 P0 P1 P2 P3 P4 Q0 Q1 Q2 Q3 Q4 D0 D1 D2 D3 D4 G0 G1 G2 G3 G4 HS
    obtain ⟨_, _, _, lvX, kvX, hvX, _, hlX, _⟩ := Hr0.out.open
    injection hvX with hvX
    simp only [Array.mk.injEq, List.cons.injEq, and_true, true_and] at hvX
    obtain ⟨rfl, rfl⟩ := hvX
    obtain ⟨_, _, _, lvY, kvY, hvY, _, hlY, _⟩ := Hr1.out.open
    injection hvY with hvY
    simp only [Array.mk.injEq, List.cons.injEq, and_true, true_and] at hvY
    obtain ⟨rfl, rfl⟩ := hvY
    obtain ⟨nX, EX, CX⟩ := hlX.elems
    obtain ⟨nY, EY, CY⟩ := hlY.elems
    have HEX := Lib.hid EX
    have HEY := Lib.hid EY
    have HCX := Lib.hid (fun W (hb : Below w.heap.size w W) => cells_to CX hb)
    have HCY := Lib.hid (fun W (hb : Below w.heap.size w W) => cells_to CY hb)
    clear hlX hlY EX EY CX CY
    go_wp2_with fail
    have hk := fun (W : World) (p : Nat) hb h1 h2 => prim_kinds X Y 2 2 (some ⟨g, off, none⟩) c 2 p ok W (Hls.out.below hb) h1 h2
    refine (hk _ _ (bthen HW.out (one_b _ _)) (World.cell?_alloc_at _ _ _ _ (by simp)) (World.cell?_alloc_at _ _ _ _ (by simp))).mono ?_
    clear hk
    rw [K2.out]
    rintro e w1 ⟨rfl, rfl⟩
    go_wp2_with fail
    have hk := fun (W : World) (p : Nat) hb h1 h2 => prim_kinds X Y 3 3 (some ⟨g, off, none⟩) c 2 p ok W (Hls.out.below hb) h1 h2
    refine (hk _ _ (bthen HW.out (two_alloc _ _ _)) (World.cell?_alloc_at _ _ _ _ (by simp)) (World.cell?_alloc_at _ _ _ _ (by simp))).mono ?_
    clear hk
    rw [K3.out]
    rintro e w1 ⟨rfl, rfl⟩
    go_wp2_with fail
    have hk := fun (W : World) (p : Nat) hb h1 h2 => prim_kinds X Y 4 4 (some ⟨g, off, none⟩) c 2 p ok W (Hls.out.below hb) h1 h2
    refine (hk _ _ (bthen HW.out (three_alloc _ _ _ _)) (World.cell?_alloc_at _ _ _ _ (by simp)) (World.cell?_alloc_at _ _ _ _ (by simp))).mono ?_
    clear hk
    rw [K4.out]
    rintro e w1 ⟨rfl, rfl⟩
    have hX5 := HA.out.fX.get
    have hY5 := HA.out.fY.get
    have X3 := fun X Y Z => bcell (three_alloc wc X Y Z) hX5.2.2.2.1
    have Y3 := fun X Y Z => bcell (three_alloc wc X Y Z) hY5.2.2.2.1
    clear hX5 hY5
    go_wp2_with fail
    go_region_law (first
      | (refine step_append_gen rfl _ _ 22 rfl infoVal Tryz.underlying22 rfl (by decide) (by decide) rfl (OwnR.nil 25 5 (newB wc.heap.size) _) A1 X.parts.length c1 nX rfl HEX.out.len (HCX.out _ (bthen HW.out (three_alloc _ _ _ _).drew)) HEX.out.one (by have := Hsl.out; omega) (fun k hk => by simp only [newB]; simp at hk; omega) ?_; intro v1 w1 g1 g2; have HB1 := Lib.hid (bthen (three_alloc wc _ _ _).drew (below_of_grown g2)); have G1 := Lib.hid g1; have y3 := bcell HB1.out (HA.out.fY.get).2.2.2.1; clear g1 g2)
      | (refine step_append_gen rfl _ _ 22 rfl infoVal Tryz.underlying22 rfl (by decide) (by decide) rfl G1.out A2 Y.parts.length c2 nY rfl HEY.out.len (HCY.out _ (bthen HW.out HB1.out)) HEY.out.one (by have := Hsl.out; omega) (fun k hk => by have := HB1.out.size; simp only [newB]; omega) ?_; intro v2 w2 g3 g4; have HB2 := Lib.hid (below_grown HB1.out rfl g4 G1.out.blk); have G2 := Lib.hid g3; clear g3 g4; obtain ⟨A3, c3, rfl, _⟩ := G2.out.slice; have HBW := Lib.hid (bthen HW.out HB2.out); have HRd := Lib.hid (arr_rd G2.out (HEX.out.below HBW.out) (HEY.out.below HBW.out) Hsl.out))
      | (go_simp; go_at_call 66; refine (prim_sized' _ R t HR.out _ (fun _ => True) _ HRd.out).mono ?_; rintro e w5 ⟨v', rfl, hv', hb⟩; obtain ⟨A5, c5, B5, d5, rfl, _⟩ := hv'.form; have HV := Lib.hid hv'; have HSW := Lib.hid (HA.out.st.below HB2.out); have HS5 := Lib.hid (HSW.out.below hb); have Hlt := Lib.hid (lt_of_cell HSW.out.2.2.2.2.2.1); clear hv' hb; obtain ⟨h0, h1, h2, h3, h4, r0, r1, r2, r3, r4, hf, hw⟩ := HS5.out; have hf0 := hf 0; have hf1 := hf 1; have hf2 := hf 2; have hf3 := hf 3; have hf4 := hf 4; have Hw := Lib.hid hw; clear hw hf))
    all_goals go_wp2_with fail
    all_goals refine bodyPost_ret (v := .tuple #[valV R A5 c5 B5 d5, .int .i64 t]) ?_ rfl ⟨_, rfl, ans_sets HV.out Hlt.out (Nat.lt_succ_self _) HBW.out.size _ _ _ _ _ _ _ _ _ _, five_sets Hw.out (Nat.le_succ _) _ _ _ _ _ _ _ _ _ _⟩
    all_goals rw [results_cell_tmp rfl]
    all_goals go_simp
end Go.Proofs.YtacaknkfddlklaaGreatDoor
namespace Go.Proofs.YtacaknkfddlklaaGreatDoor
open Go.RowKit Go.IntWalk

set_option maxRecDepth 20000 in
set_option maxHeartbeats 1000000 in
theorem prim_abort (x0 x1 x2 x3 x4 : Value) (l : Value) (w : World) :
    Calls Tryz.prog 81 #[.agg #[x0, x1, x2, x3, x4], l] w (PlainPost w 0 0 8) := by
  go_enter Tryz.func81, Tryz.ntmps81
  go_wp2_with fail
  refine (prim_trapped _ _).mono ?_
  rintro e w1 ⟨rfl, rfl⟩
  go_wp2
  refine bodyPost_ret (v := .tuple #[aggV 0 0, .int .i64 8]) ?_ rfl ⟨rfl, three_alloc _ _ _ _⟩
  rw [results_cell_tmp rfl]
  go_simp
set_option maxRecDepth 20000 in
set_option maxHeartbeats 1000000 in
theorem prim_kind (X : V) (x0 x1 x2 x3 x4 : Value) (A : Option Addr) (c : Nat) (ok : Nat → Prop) (w : World) (hls : RdVs ok w (.slice A 1 c) 0 [X]) :
    Calls Tryz.prog 79 #[.agg #[x0, x1, x2, x3, x4], .slice A 1 c] w (PlainPost w 2 X.kind 0) := by
  obtain ⟨g, off, A1, c1, B1, d1, rfl, hog, hr0, e0, e1, e2, e3, e4⟩ := hls.elem 0 (by simp)
  simp only [List.getElem_cons_zero, Nat.zero_mul, Nat.add_zero] at e0
  have c1 := fun U V => bcell (two_alloc w U V) e0
  clear hls hog hr0 e0 e1 e2 e3 e4
  go_enter Tryz.func79, Tryz.ntmps79
  go_wp2_with fail
  refine (prim_number _ _).mono ?_
  rintro e w1 ⟨rfl, rfl⟩
  go_wp2
  refine bodyPost_ret (v := .tuple #[aggV 2 X.kind, .int .i64 0]) ?_ rfl ⟨rfl, three_alloc _ _ _ _⟩
  rw [results_cell_tmp rfl]
  go_simp
/-- what len makes -/
def lenS (X : V) : V × Int := if hasLong X then (.mk 2 (longS X) [] [] [], 0) else (V.zero, 3)
set_option maxRecDepth 20000 in
set_option maxHeartbeats 1000000 in
theorem prim_len (X : V) (x0 x1 x2 x3 x4 : Value) (A : Option Addr) (c : Nat) (ok : Nat → Prop) (w : World) (hls : RdVs ok w (.slice A 1 c) 0 [X]) :
    Calls Tryz.prog 70 #[.agg #[x0, x1, x2, x3, x4], .slice A 1 c] w (PlainPost w (if hasLong X then 2 else 0) (if hasLong X then longS X else 0) (if hasLong X then 0 else 3)) := by
  obtain ⟨g, off, A1, c1, B1, d1, rfl, hog, hr0, e0, e1, e2, e3, e4⟩ := hls.elem 0 (by simp)
  simp only [List.getElem_cons_zero, Nat.zero_mul, Nat.add_zero] at e0 e1 e2 e3 e4 hr0
  have E0 := fun U V => bcell (two_alloc w U V) e0
  have E1 := fun U V => bcell (two_alloc w U V) e1
  have E2 := fun U V => bcell (two_alloc w U V) e2
  have E3 := fun U V => bcell (two_alloc w U V) e3
  have E4 := fun U V => bcell (two_alloc w U V) e4
  have HS := Lib.hid (fun W hv => prim_size X (valV X A1 c1 B1 d1) ok W hv)
  have Hr := Lib.hid hr0
  have HD := Lib.hid (DoSt.made w x0 x1 x2 x3 x4)
  clear hls hog hr0 e0 e1 e2 e3 e4
  cases hh : hasLong X with
  | false =>
    rw [hh] at HS
    simp only [Bool.false_eq_true, if_false]
    clear hh
    go_enter Tryz.func70, Tryz.ntmps70
    go_wp2_with fail
    refine (HS.out _ (Hr.out.below (two_alloc _ _ _))).mono ?_
    rintro e w1 ⟨rfl, hb⟩
    have HD1 := Lib.hid (HD.out.below hb)
    clear hb E0 E1 E2 E3 E4
    go_wp2_with fail
    refine (prim_trapped _ _).mono ?_
    rintro e wn ⟨rfl, rfl⟩
    obtain ⟨h0, h1, h2, h3, h4, r0, r1, r2, r3, r4, hf, hw⟩ := HD1.out.below (one_b _ (cellsV 0 0))
    have hf0 := hf 0
    have hf1 := hf 1
    have hf2 := hf 2
    have hf3 := hf 3
    have hf4 := hf 4
    have Hw := Lib.hid hw
    clear hw hf
    go_wp2_with fail
    refine bodyPost_ret (v := .tuple #[aggV 0 0, .int .i64 3]) ?_ rfl ⟨rfl, five_sets Hw.out (Nat.le_succ _) _ _ _ _ _ _ _ _ _ _⟩
    rw [results_cell_tmp rfl]
    go_simp
  | true =>
    rw [hh] at HS
    simp only [if_true]
    clear hh
    generalize longS X = n at *
    go_enter Tryz.func70, Tryz.ntmps70
    go_wp2_with fail
    refine (HS.out _ (Hr.out.below (two_alloc _ _ _))).mono ?_
    rintro e w1 ⟨rfl, hb⟩
    have HD1 := Lib.hid (HD.out.below hb)
    clear hb E0 E1 E2 E3 E4
    go_wp2_with fail
    refine (prim_number _ _).mono ?_
    rintro e wn ⟨rfl, rfl⟩
    obtain ⟨h0, h1, h2, h3, h4, r0, r1, r2, r3, r4, hf, hw⟩ := HD1.out.below (one_b _ (cellsV 2 n))
    have hf0 := hf 0
    have hf1 := hf 1
    have hf2 := hf 2
    have hf3 := hf 3
    have hf4 := hf 4
    have Hw := Lib.hid hw
    clear hw hf
    go_wp2_with fail
    refine bodyPost_ret (v := .tuple #[aggV 2 n, .int .i64 0]) ?_ rfl ⟨rfl, five_sets Hw.out (Nat.le_succ _) _ _ _ _ _ _ _ _ _ _⟩
    rw [results_cell_tmp rfl]
    go_simp
set_option maxRecDepth 20000 in
set_option maxHeartbeats 1000000 in
theorem prim_array (l : List V) (x0 x1 x2 x3 x4 : Value) (A : Option Addr) (c : Nat) (ok : Nat → Prop) (w : World) (hls : RdVs ok w (.slice A l.length c) 0 l) (hc : l.length ≤ c) (hcm : c ≤ 9223372036854775807) (hl : l.length ≤ 16777216) (R : V) (t : Int) (hR : sizedS (.mk 4 0 [] l []) = (R, t)) :
    Calls Tryz.prog 65 #[.agg #[x0, x1, x2, x3, x4], .slice A l.length c] w (AnsPost w R t) := by
  have hrd : RdV ok w (.agg #[.int .i64 4, .int .i64 0, .string ⟨#[]⟩, .slice A l.length c, .slice none 0 0]) (.mk 4 0 [] l []) :=
    RdV.close (s := []) (i64ok_small (by decide) (by decide)) (i64ok_small (by decide) (by decide)) (by simp) ⟨A, c, rfl, hc, hcm, hl⟩ hls (RdK.nil _ _ _ _ (by omega))
  have HRd := Lib.hid hrd
  have HR := Lib.hid hR
  have HD := Lib.hid (DoSt.made w x0 x1 x2 x3 x4)
  clear hls hrd hR
  go_enter Tryz.func65, Tryz.ntmps65
  go_wp2_with fail
  refine (prim_sized' _ R t HR.out _ ok _ (HRd.out.below (two_alloc _ _ _))).mono ?_
  rintro e w5 ⟨v', rfl, hv', hb⟩
  obtain ⟨A5, c5, B5, d5, rfl, _⟩ := hv'.form
  have HV := Lib.hid hv'
  have HS5 := Lib.hid (HD.out.below hb)
  clear hv' hb
  obtain ⟨h0, h1, h2, h3, h4, r0, r1, r2, r3, r4, hf, hw⟩ := HS5.out
  have hf0 := hf 0
  have hf1 := hf 1
  have hf2 := hf 2
  have hf3 := hf 3
  have hf4 := hf 4
  have Hw := Lib.hid hw
  clear hw hf
  go_wp2_with fail
  refine bodyPost_ret (v := .tuple #[valV R A5 c5 B5 d5, .int .i64 t]) ?_ rfl ⟨_, rfl, ans_sets HV.out (by simp) (Nat.lt_succ_self _) (by simp; omega) _ _ _ _ _ _ _ _ _ _, five_sets Hw.out (Nat.le_succ _) _ _ _ _ _ _ _ _ _ _⟩
  rw [results_cell_tmp rfl]
  go_simp
end Go.Proofs.YtacaknkfddlklaaGreatDoor
