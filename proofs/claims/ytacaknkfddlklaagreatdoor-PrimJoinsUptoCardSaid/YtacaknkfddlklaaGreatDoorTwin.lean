/- Contract of value.twin: the same value in new memory. -/
import Derived.Test.YtacaknkfddlklaaGreatDoorAppNil
import Derived.Test.YtacaknkfddlklaaGreatDoorDo
import Derived.Deep.DeepCutAuto
set_option linter.unusedVariables false
set_option linter.unusedSimpArgs false
namespace Go.Proofs.YtacaknkfddlklaaGreatDoor
open Go.RowKit Go.IntWalk

theorem infoStr : (Tryz.prog.info? 9).map (fun i => (i.zero, i.size, i.bytes)) = some (some (.string ⟨#[]⟩), 1, 16) := by kernel_rfl
theorem infoVal : (Tryz.prog.info? 25).map (fun i => (i.zero, i.size, i.bytes)) = some (some (.agg #[.int .i64 0, .int .i64 0, .string ⟨#[]⟩, .slice none 0 0, .slice none 0 0]), 5, 80) := by kernel_rfl
/-- the cells of keys -/
def kvals (k : List (List UInt8)) : List Value := k.map fun s => .string ⟨s.toArray⟩
theorem kvals_len (k : List (List UInt8)) : (kvals k).length = k.length * 1 := by simp [kvals]
theorem kvals_one (k : List (List UInt8)) : ∀ u ∈ kvals k, u.oneCell' = true := by
  intro u hu
  simp only [kvals, List.mem_map] at hu
  obtain ⟨_, _, rfl⟩ := hu
  rfl
/-- a row of keys that a call owns reads as them -/
theorem RdK.own {ok : Nat → Prop} {w : World} {v : Value} {k : List (List UInt8)} (h : OwnR 9 1 ok w v k.length (kvals k)) (hl : k.length ≤ 16777216) (hs : ∀ i (hi : i < k.length), (k[i]).length ≤ 16777216) : RdK ok w v k := by
  obtain ⟨A, c, rfl, hc⟩ := h.slice
  have hcm : c ≤ 9223372036854775807 := by
    rcases h.row.2 with ⟨he, _⟩ | ⟨g, cap, cur, he, _, _, _, hm, _⟩
    · injection he with _ _ h3; omega
    · injection he with _ _ h3; unfold maxLen at hm; omega
  refine ⟨⟨A, c, rfl, hc, hcm, hl⟩, fun i hi => ?_⟩
  obtain ⟨g, cap, hv, hk, _, hcell⟩ := h.form (Nat.lt_of_le_of_lt (Nat.zero_le _) hi)
  injection hv with h1 h2 h3
  subst h1
  refine ⟨g, i, ⟨0, _, _, rfl, by omega, hk⟩, hcell i _ ?_, hs i hi⟩
  simp [kvals, List.getElem?_eq_getElem hi]
/-- a row of keys: its cells -/
theorem RdK.news {ok : Nat → Prop} {w : World} {A : Option Addr} {n c : Nat} {k : List (List UInt8)} (h : RdK ok w (.slice A n c) k) : 0 < k.length → ∃ g off, A = some ⟨g, off, none⟩ ∧ ∀ j u, (kvals k)[j]? = some u → w.cell? ⟨g, off + j, none⟩ = some u := by
  intro h0
  obtain ⟨g, off, hA, _, _⟩ := h.elem 0 h0
  refine ⟨g, off, hA, fun j u hj => ?_⟩
  simp only [kvals, List.getElem?_map, Option.map_eq_some_iff] at hj
  obtain ⟨s, hs, rfl⟩ := hj
  obtain ⟨hlt, hs'⟩ := List.getElem?_eq_some_iff.1 hs
  obtain ⟨g', off', hA', _, hc, _⟩ := h.elem j hlt
  rw [hA] at hA'
  injection hA' with hA'
  injection hA' with h1 h2
  subst h1 h2
  rw [hc, hs']
theorem sc_other {w : World} {g o g' p : Nat} {v : Value} (h : g ≠ g' ∨ o ≠ p) : (w.setCell ⟨g, o, none⟩ v).cell? ⟨g', p, none⟩ = w.cell? ⟨g', p, none⟩ :=
  World.cell?_setCell_other (h := fun e => by injection e with h1 h2; rcases h with h | h <;> omega) ..
theorem sc_same {w : World} {a : Addr} {u v : Value} (h : w.cell? a = some u) : (w.setCell a v).cell? a = some v := World.cell?_setCell_same (h := h) ..
theorem DoSt.set4 {w w1 : World} {a0 a1 a2 a3 a4 : Value} (h : DoSt w a0 a1 a2 a3 a4 w1) (u : Value) : DoSt w a0 a1 a2 a3 u (w1.setCell ⟨w.heap.size, 4, none⟩ u) := by
  obtain ⟨h0, h1, h2, h3, h4, r0, r1, r2, r3, r4, hf, hw⟩ := h
  refine ⟨?_, ?_, ?_, ?_, ?_, ?_, ?_, ?_, ?_, ?_, fun i => ?_, hw.setCell (Nat.le_refl _) _⟩
  · rw [sc_other (by omega)]; exact h0
  · rw [sc_other (by omega)]; exact h1
  · rw [sc_other (by omega)]; exact h2
  · rw [sc_other (by omega)]; exact h3
  · exact sc_same h4
  · rw [sc_other (by omega)]; exact r0
  · rw [sc_other (by omega)]; exact r1
  · rw [sc_other (by omega)]; exact r2
  · rw [sc_other (by omega)]; exact r3
  · rw [sc_other (by omega)]; exact r4
  · simpa [go_sem] using hf i
/-- what turns other blocks leaves the two boxes -/
theorem DoSt.fr {w w1 w2 : World} {a0 a1 a2 a3 a4 : Value} {ok : Nat → Prop} (h : DoSt w a0 a1 a2 a3 a4 w1) (hf : Fr ok w1 w2) (hn : ∀ b, b ≤ w.heap.size + 1 → ¬ ok b) : DoSt w a0 a1 a2 a3 a4 w2 := by
  obtain ⟨h0, h1, h2, h3, h4, r0, r1, r2, r3, r4, hfz, hw⟩ := h
  have n0 : ¬ ok w.heap.size := hn _ (by omega)
  have n1 : ¬ ok (w.heap.size + 1) := hn _ (by omega)
  exact ⟨hf.cell h0 n0, hf.cell h1 n0, hf.cell h2 n0, hf.cell h3 n0, hf.cell h4 n0, hf.cell r0 n1, hf.cell r1 n1, hf.cell r2 n1, hf.cell r3 n1, hf.cell r4 n1, fun i => (World.frozen?_of_block (a := ⟨w.heap.size + 1, i, none⟩) (hf.block _ (lt_of_cell r0) n1)).trans (hfz i), hf.behind hw fun b hb => hn b (by omega)⟩
theorem frozen_below {w1 w2 : World} {g : Nat} (hb : Below w1.heap.size w1 w2) (hg : g < w1.heap.size) (hf : ∀ i, w1.frozen? ⟨g, i, none⟩ = false) : ∀ i, w2.frozen? ⟨g, i, none⟩ = false :=
  fun i => (World.frozen?_of_block (a := ⟨g, i, none⟩) (hb.block _ hg)).trans (hf i)
/-- within twin's loop: k parts are copied into the block g -/
structure TwInv (w : World) (X : V) (a0 a1 a2 a3 K : Value) (g k : Nat) (wr : World) : Prop where
  st : DoSt w a0 a1 a2 a3 K wr
  keys : RdK (fun b => w.heap.size + 2 ≤ b ∧ b < g) wr K X.keys
  two : w.heap.size + 2 ≤ g
  done : ∀ j (hj : j < X.parts.length), j < k → ∃ v, Five wr g (j * 5) v ∧ RdV (fun b => g < b) wr v X.parts[j]
  cells : ∀ i, i < X.parts.length * 5 → ∃ c, wr.cell? ⟨g, i, none⟩ = some c
  melt : ∀ i, wr.frozen? ⟨g, i, none⟩ = false
  lt : g < wr.heap.size
  fz : ∀ i, wr.frozen? ⟨w.heap.size, i, none⟩ = false
theorem TwInv.below {w : World} {X : V} {a0 a1 a2 a3 K : Value} {g k : Nat} {wr w3 : World} (h : TwInv w X a0 a1 a2 a3 K g k wr) (hb : Below wr.heap.size wr w3) : TwInv w X a0 a1 a2 a3 K g k w3 :=
  ⟨h.st.below hb, h.keys.below hb, h.two, fun j hj hk => by obtain ⟨v, h1, h2⟩ := h.done j hj hk; exact ⟨v, h1.below hb, h2.below hb⟩, fun i hi => by obtain ⟨c, hc⟩ := h.cells i hi; exact ⟨c, bcell hb hc⟩,
    fun i => (World.frozen?_of_block (a := ⟨g, i, none⟩) (hb.block _ h.lt)).trans (h.melt i), Nat.lt_of_lt_of_le h.lt hb.size, frozen_below hb (lt_of_cell h.st.1) h.fz⟩
theorem TwInv.step {w : World} {X : V} {a0 a1 a2 a3 K : Value} {g k m : Nat} {w3 : World} (h : TwInv w X a0 a1 a2 a3 K g k w3) (hk : k < X.parts.length) {c0 c1 c2 c3 c4 : Value} (hm : g < m) (hv : RdV (newB m) w3 (.agg #[c0, c1, c2, c3, c4]) X.parts[k]) :
    TwInv w X a0 a1 a2 a3 K g (k + 1) (((((w3.setCell ⟨g, k * 5, none⟩ c0).setCell ⟨g, k * 5 + 1, none⟩ c1).setCell ⟨g, k * 5 + 2, none⟩ c2).setCell ⟨g, k * 5 + 3, none⟩ c3).setCell ⟨g, k * 5 + 4, none⟩ c4) := by
  have hfr : Fr (fun b => b = g) w3 (((((w3.setCell ⟨g, k * 5, none⟩ c0).setCell ⟨g, k * 5 + 1, none⟩ c1).setCell ⟨g, k * 5 + 2, none⟩ c2).setCell ⟨g, k * 5 + 3, none⟩ c3).setCell ⟨g, k * 5 + 4, none⟩ c4) :=
    ((((((Fr.refl (fun b => b = g) w3).setCell (p := ⟨g, k * 5, none⟩) rfl c0).setCell (p := ⟨g, k * 5 + 1, none⟩) rfl c1).setCell (p := ⟨g, k * 5 + 2, none⟩) rfl c2).setCell (p := ⟨g, k * 5 + 3, none⟩) rfl c3).setCell (p := ⟨g, k * 5 + 4, none⟩) rfl c4)
  have hoth : ∀ i, i < k * 5 ∨ k * 5 + 5 ≤ i → (((((w3.setCell ⟨g, k * 5, none⟩ c0).setCell ⟨g, k * 5 + 1, none⟩ c1).setCell ⟨g, k * 5 + 2, none⟩ c2).setCell ⟨g, k * 5 + 3, none⟩ c3).setCell ⟨g, k * 5 + 4, none⟩ c4).cell? ⟨g, i, none⟩ = w3.cell? ⟨g, i, none⟩ := by
    intro i hi
    rw [sc_other (by omega), sc_other (by omega), sc_other (by omega), sc_other (by omega), sc_other (by omega)]
  obtain ⟨d0, e0⟩ := h.cells (k * 5) (by omega)
  obtain ⟨d1, e1⟩ := h.cells (k * 5 + 1) (by omega)
  obtain ⟨d2, e2⟩ := h.cells (k * 5 + 2) (by omega)
  obtain ⟨d3, e3⟩ := h.cells (k * 5 + 3) (by omega)
  obtain ⟨d4, e4⟩ := h.cells (k * 5 + 4) (by omega)
  have hfive : Five (((((w3.setCell ⟨g, k * 5, none⟩ c0).setCell ⟨g, k * 5 + 1, none⟩ c1).setCell ⟨g, k * 5 + 2, none⟩ c2).setCell ⟨g, k * 5 + 3, none⟩ c3).setCell ⟨g, k * 5 + 4, none⟩ c4) g (k * 5) (.agg #[c0, c1, c2, c3, c4]) := by
    refine ⟨c0, c1, c2, c3, c4, rfl, ?_, ?_, ?_, ?_, ?_⟩
    · rw [sc_other (by omega), sc_other (by omega), sc_other (by omega), sc_other (by omega)]
      exact sc_same e0
    · rw [sc_other (by omega), sc_other (by omega), sc_other (by omega)]
      exact sc_same (u := d1) (by rw [sc_other (by omega)]; exact e1)
    · rw [sc_other (by omega), sc_other (by omega)]
      exact sc_same (u := d2) (by rw [sc_other (by omega), sc_other (by omega)]; exact e2)
    · rw [sc_other (by omega)]
      exact sc_same (u := d3) (by rw [sc_other (by omega), sc_other (by omega), sc_other (by omega)]; exact e3)
    · exact sc_same (u := d4) (by rw [sc_other (by omega), sc_other (by omega), sc_other (by omega), sc_other (by omega)]; exact e4)
  refine ⟨h.st.fr hfr (fun b hb e => by have := h.two; omega), h.keys.fr hfr (fun b _ hb e => by omega), h.two, fun j hj hk' => ?_, fun i hi => ?_, fun i => by simpa [go_sem] using h.melt i, by simpa [World.setCell] using h.lt, fun i => by simpa [go_sem] using h.fz i⟩
  · rcases Nat.lt_or_ge j k with hlt | hge
    · obtain ⟨v, ⟨x0, x1, x2, x3, x4, hx, q0, q1, q2, q3, q4⟩, h2⟩ := h.done j hj hlt
      refine ⟨v, ⟨x0, x1, x2, x3, x4, hx, ?_, ?_, ?_, ?_, ?_⟩, h2.fr hfr (fun b _ hb e => by omega)⟩
      · rw [hoth _ (by omega)]; exact q0
      · rw [hoth _ (by omega)]; exact q1
      · rw [hoth _ (by omega)]; exact q2
      · rw [hoth _ (by omega)]; exact q3
      · rw [hoth _ (by omega)]; exact q4
    · have : j = k := by omega
      subst this
      exact ⟨_, hfive, (hv.fr hfr (fun b _ hb e => by simp only [newB] at hb; omega)).imp fun b hb => by simp only [newB] at hb; omega⟩
  · by_cases hin : i < k * 5 ∨ k * 5 + 5 ≤ i
    · rw [hoth i hin]; exact h.cells i hi
    · obtain ⟨x0, x1, x2, x3, x4, hx, q0, q1, q2, q3, q4⟩ := hfive
      have hcs : i = k * 5 ∨ i = k * 5 + 1 ∨ i = k * 5 + 2 ∨ i = k * 5 + 3 ∨ i = k * 5 + 4 := by omega
      rcases hcs with rfl | rfl | rfl | rfl | rfl
      · exact ⟨_, q0⟩
      · exact ⟨_, q1⟩
      · exact ⟨_, q2⟩
      · exact ⟨_, q3⟩
      · exact ⟨_, q4⟩
theorem TwInv.start {w w1 : World} {X : V} {a0 a1 a2 a3 a4 K : Value} (h : DoSt w a0 a1 a2 a3 a4 w1) (hk : RdK (fun b => w.heap.size + 2 ≤ b ∧ b < w1.heap.size) w1 K X.keys) (hz : ∀ i, w1.frozen? ⟨w.heap.size, i, none⟩ = false) (z : Array Value) (t : TypeId) :
    TwInv w X a0 a1 a2 a3 K w1.heap.size 0 ((w1.setCell ⟨w.heap.size, 4, none⟩ K).alloc (.cells (madeCells z (X.parts.length * 5)) t)) := by
  have hs : (w1.setCell ⟨w.heap.size, 4, none⟩ K).heap.size = w1.heap.size := by simp [World.setCell]
  have hb : Below (w1.setCell ⟨w.heap.size, 4, none⟩ K).heap.size (w1.setCell ⟨w.heap.size, 4, none⟩ K) ((w1.setCell ⟨w.heap.size, 4, none⟩ K).alloc (.cells (madeCells z (X.parts.length * 5)) t)) := (Below.refl _ _).alloc (Nat.le_refl _) _
  have h1 : w.heap.size + 1 < w1.heap.size := lt_of_cell h.2.2.2.2.2.1
  have hfr : Fr (fun b => b = w.heap.size) w1 (w1.setCell ⟨w.heap.size, 4, none⟩ K) := (Fr.refl (fun b => b = w.heap.size) w1).setCell (p := ⟨w.heap.size, 4, none⟩) rfl K
  refine ⟨(h.set4 K).below hb, (hk.fr hfr fun b _ hb e => by omega).below hb, h1, fun j hj h0 => absurd h0 (Nat.not_lt_zero _), fun i hi => ?_, fun i => ?_, by simp [World.setCell], fun i => ?_⟩
  · rw [← hs]
    refine ⟨(madeCells z (X.parts.length * 5))[i]'(by rw [size_madeCells]; exact hi), ?_⟩
    rw [World.cell?_alloc_at _ _ _ _ rfl]
    exact Array.getElem?_eq_getElem _
  · rw [← hs]; exact World.frozen?_alloc_at _ _ _ _ rfl
  · exact frozen_below hb (by rw [hs]; omega) (fun i => by simpa [go_sem] using hz i) i
theorem make_run (n : Nat) (hn : n ≤ 16777216) (w : World) : (Instr.makeSlice 22 (.int .i64 (n : Int)) (.int .i64 (n : Int))).run Tryz.prog w = .ok (.slice (some ⟨w.heap.size, 0, none⟩) n n) (w.alloc (.cells (madeCells #[.int .i64 0, .int .i64 0, .string ⟨#[]⟩, .slice none 0 0, .slice none 0 0] (n * 5)) 25)) := by
  obtain ⟨i, hi, hz0, hz1, hz2⟩ := info_parts infoVal
  have h := run_make (P := Tryz.prog) w 22 25 i _ Tryz.underlying22 hi hz0 .i64 .i64 n n (by omega) (by omega) (by rw [hz2]; omega) (by omega)
  rw [hz1] at h
  simpa [Value.cells] using h
theorem six_fr (w1 : World) {n b g : Nat} (hg : g ≤ n) (hb : b ≤ n) (o o0 o1 o2 o3 o4 : Nat) (v v0 v1 v2 v3 v4 : Value) : Fr (fun k => k ≤ n) w1 ((((((w1.setCell ⟨g, o, none⟩ v).setCell ⟨b, o0, none⟩ v0).setCell ⟨b, o1, none⟩ v1).setCell ⟨b, o2, none⟩ v2).setCell ⟨b, o3, none⟩ v3).setCell ⟨b, o4, none⟩ v4) :=
  (((((((Fr.refl (fun k => k ≤ n) w1).setCell (p := ⟨g, o, none⟩) hg v).setCell (p := ⟨b, o0, none⟩) hb v0).setCell (p := ⟨b, o1, none⟩) hb v1).setCell (p := ⟨b, o2, none⟩) hb v2).setCell (p := ⟨b, o3, none⟩) hb v3).setCell (p := ⟨b, o4, none⟩) hb v4)
theorem TwInv.finish {w : World} {X : V} {a0 a1 a2 a3 K : Value} {g : Nat} {wr W : World} (h : TwInv w X a0 a1 a2 a3 K g X.parts.length wr) (hf : Fr (fun b => b ≤ w.heap.size + 1) wr W) (h0 : i64ok X.kind) (h1 : i64ok X.num) (h2 : X.str.length ≤ 16777216) (h5 : X.parts.length ≤ 16777216) :
    RdV (newB w.heap.size) W (.agg #[.int .i64 X.kind, .int .i64 X.num, .string ⟨X.str.toArray⟩, .slice (some ⟨g, 0, none⟩) X.parts.length X.parts.length, K]) X := by
  have key : ∀ j (hj : j < X.parts.length), ∃ gg o v, SlAt (newB w.heap.size) (.slice (some ⟨g, 0, none⟩) X.parts.length X.parts.length) 5 (0 + j) gg o ∧ Five W gg o v ∧ RdV (newB w.heap.size) W v X.parts[j] := fun j hj => by
    obtain ⟨v, hv1, hv2⟩ := h.done j hj hj
    have h2 := h.two
    exact ⟨g, j * 5, v, ⟨0, _, _, rfl, by omega, by simp only [newB]; omega⟩, hv1.fr hf (fun _ e => by omega), (hv2.fr hf (fun b _ hb e => by omega)).imp (fun b hb => by simp only [newB]; omega)⟩
  have hk : RdK (newB w.heap.size) W K X.keys := (h.keys.fr hf (fun b _ hb e => by omega)).imp (fun b hb => by simp only [newB]; omega)
  cases X with
  | mk kind n s l ks => exact RdV.close h0 h1 h2 ⟨_, _, rfl, Nat.le_refl _, by simp only [V.parts] at *; omega, h5⟩ (RdVs.mk key) hk
set_option maxRecDepth 20000 in
set_option maxHeartbeats 2000000 in
theorem value_twin (m : Nat) : ∀ (X : V) (v : Value) (ok : Nat → Prop) (w : World) (hv : RdV ok w v X) (hm : SizeOf.sizeOf X ≤ m),
    Calls Tryz.prog 130 #[v] w fun e w' => ∃ v', e = .returned v' ∧ RdV (newB w.heap.size) w' v' X ∧ Below w.heap.size w w' := by
  induction m using Nat.strongRecOn with
  | _ m ih =>
  intro X v ok w hv hm
  obtain ⟨A, c, B, d, rfl, h1, h2, h3, h4, h5, h6, h7⟩ := hv.form
  obtain ⟨hk0, hk1, hk2, lv, kv, hvv, hf1, hf2, hf3⟩ := hv.open
  injection hvv with hvv
  simp only [Array.mk.injEq, List.cons.injEq, and_true, true_and] at hvv
  obtain ⟨rfl, rfl⟩ := hvv
  have HK := Lib.hid hf3
  have HL := Lib.hid hf2
  have hmk := make_run X.parts.length h5
  have HX := Lib.hid (rbox5 w (.int .i64 X.kind) (.int .i64 X.num) (.string ⟨X.str.toArray⟩) (.slice A X.parts.length c) (.slice B X.keys.length d) 25)
  have h16 : X.keys.length * 16 ≤ 140737488355328 := by omega
  have H16 := Lib.hid h16
  have HO := Lib.hid (And.intro hk0 hk1)
  clear hv hf1 hf2 hf3 hk0 hk1 hk2 h16
  go_enter Tryz.func130, Tryz.ntmps130
  go_wp2_with (first | (refine wpList_append_nil rfl _ _ 23 rfl infoStr Tryz.underlying23 rfl (by decide) (by decide) rfl B X.keys.length d (kvals X.keys) rfl (kvals_len _) (RdK.news (HK.out.below (two_alloc _ _ _))) (kvals_one _) H16.out ?_) | fail)
  intro v1 w1 g1 g2
  have HS1 := Lib.hid ((DoSt.made w (.int .i64 X.kind) (.int .i64 X.num) (.string ⟨X.str.toArray⟩) (.slice A X.parts.length c) (.slice B X.keys.length d)).below (w2 := w1) (by simpa using g2))
  have hkl : ∀ i (hi : i < X.keys.length), (X.keys[i]).length ≤ 16777216 := fun i hi => by
    obtain ⟨_, _, _, _, _, h⟩ := HK.out.elem i hi
    exact h
  have HK1 := Lib.hid (RdK.own (g1.mono (ok' := fun b => w.heap.size + 2 ≤ b ∧ b < w1.heap.size) (fun k hk hn => ⟨hn, hk⟩)) h6 hkl)
  obtain ⟨A1, c1, rfl, hc1⟩ := g1.slice
  have hst := HS1.out
  obtain ⟨e0, e1, e2, e3, e4, r0, r1, r2, r3, r4, hf, hw⟩ := hst
  have hz := frozen_below (w1 := (w.alloc (.cells #[.int .i64 X.kind, .int .i64 X.num, .string ⟨X.str.toArray⟩, .slice A X.parts.length c, .slice B X.keys.length d] 25)).alloc (cellsV 0 0)) (w2 := w1) (g := w.heap.size) (by simpa using g2) (by simp; omega)
    (frozen_below ((Below.refl _ _).alloc (Nat.le_refl _) _) (by simp) (fun i => World.frozen?_alloc_at _ _ _ _ rfl))
  have hz4 := hz 4
  have HZ := Lib.hid hz
  have HI := Lib.hid (TwInv.start (X := X) HS1.out HK1.out hz #[.int .i64 0, .int .i64 0, .string ⟨#[]⟩, .slice none 0 0, .slice none 0 0] 25)
  have q3 := HI.out.st.2.2.2.1
  clear g1 g2 hkl hf hw HX hz
  go_wp2_with fail
  clear e0 e1 e2 e3 e4 r0 r1 r2 r3 r4 hz4 q3 HZ
  go_loopw [17] (fun i wr => ∃ k : Nat, k ≤ X.parts.length ∧ i = .int .i64 k ∧ TwInv w X (.int .i64 X.kind) (.int .i64 X.num) (.string ⟨X.str.toArray⟩) (.slice A X.parts.length c) (.slice A1 X.keys.length c1) w1.heap.size k wr) (fun i _ => X.parts.length - (intOf i).toNat)
  case atStart => exact ⟨0, Nat.zero_le _, rfl, HI.out⟩
  case round =>
    obtain ⟨k, hk, rfl, hI⟩ := hrel
    have HI1 := Lib.hid hI
    by_cases hlt : k < X.parts.length
    · have hlA : (k : Int) < (X.parts.length : Int) := by omega
      have h00 : (0 : Int) ≤ (k : Int) := by omega
      have hsz := V.sz_part hlt
      obtain ⟨g0, off, A', c', B', d', rfl, hog, hrd, e0, e1, e2, e3, e4⟩ := (HL.out.below hI.st.2.2.2.2.2.2.2.2.2.2.2).elem k hlt
      have hY := fun (W : World) (hv : RdV ok W (valV X.parts[k] A' c' B' d') X.parts[k]) => ih (SizeOf.sizeOf X.parts[k]) (Nat.lt_of_lt_of_le hsz hm) X.parts[k] (valV X.parts[k] A' c' B' d') ok W hv (Nat.le_refl _)
      have hstep := fun (w3 : World) (h : TwInv w X (.int .i64 X.kind) (.int .i64 X.num) (.string ⟨X.str.toArray⟩) (.slice (some ⟨g0, off, none⟩) X.parts.length c) (.slice A1 X.keys.length c1) w1.heap.size k w3) (c0 c1 c2 c3 c4 : Value) (m : Nat) => h.step (c0 := c0) (c1 := c1) (c2 := c2) (c3 := c3) (c4 := c4) (m := m) hlt
      generalize X.parts[k] = Y at *
      have HY := Lib.hid hY
      have HRd := Lib.hid hrd
      have HStep := Lib.hid hstep
      have Hlt := Lib.hid hlt
      clear hY hrd hstep hI hog hlt hsz
      go_wp2_with fail
      refine (HY.out _ (HRd.out.below ((Below.refl _ _).alloc (Nat.le_refl _) _))).mono ?_
      rintro e w3 ⟨v', rfl, hv', hb3⟩
      have HI3 := Lib.hid ((HI1.out.below ((Below.refl _ _).alloc (Nat.le_refl _) _)).below hb3)
      obtain ⟨A2, c2, B2, d2, rfl, _⟩ := hv'.form
      have HV := Lib.hid hv'
      obtain ⟨z0, f0⟩ := HI3.out.cells (k * 5) (by have := Hlt.out; omega)
      obtain ⟨z1, f1⟩ := HI3.out.cells (k * 5 + 1) (by have := Hlt.out; omega)
      obtain ⟨z2, f2⟩ := HI3.out.cells (k * 5 + 2) (by have := Hlt.out; omega)
      obtain ⟨z3, f3⟩ := HI3.out.cells (k * 5 + 3) (by have := Hlt.out; omega)
      obtain ⟨z4, f4⟩ := HI3.out.cells (k * 5 + 4) (by have := Hlt.out; omega)
      have m0 := HI3.out.melt (k * 5)
      have m1 := HI3.out.melt (k * 5 + 1)
      have m2 := HI3.out.melt (k * 5 + 2)
      have m3 := HI3.out.melt (k * 5 + 3)
      have m4 := HI3.out.melt (k * 5 + 4)
      clear hb3 hv' e0 e1 e2 e3 e4
      go_wp2_with fail
      exact ⟨⟨k + 1, Hlt.out, by go_num, HStep.out _ HI3.out _ _ _ _ _ _ (by have := HI1.out.lt; simp; omega) HV.out⟩, by have := Hlt.out; simp [intOf]; omega⟩
    · have hlA : ¬ (k : Int) < (X.parts.length : Int) := by omega
      have hke : k = X.parts.length := by omega
      subst hke
      obtain ⟨e0, e1, e2, e3, e4, r0, r1, r2, r3, r4, hf, hw⟩ := hI.st
      have b3 := hI.fz 3
      have r5 := hf 0
      have r6 := hf 1
      have r7 := hf 2
      have r8 := hf 3
      have r9 := hf 4
      have Hw := Lib.hid hw
      clear hI hf hw hk hlt
      go_wp2_with fail
      refine bodyPost_ret (v := .agg #[.int .i64 X.kind, .int .i64 X.num, .string ⟨X.str.toArray⟩, .slice (some ⟨w1.heap.size, 0, none⟩) X.parts.length X.parts.length, .slice A1 X.keys.length c1]) (by simp [results, Tryz.results130, go_sem, e0, e1, e2, e3, e4, r0, r1, r2, r3, r4]) rfl ⟨_, rfl, HI1.out.finish ?_ HO.out.1 HO.out.2 h7 h5, five_sets (Hw.out.setCell (Nat.le_refl _) _) (Nat.le_succ _) _ _ _ _ _ _ _ _ _ _⟩
      exact six_fr _ (by omega) (by omega) _ _ _ _ _ _ _ _ _ _ _ _
end Go.Proofs.YtacaknkfddlklaaGreatDoor
