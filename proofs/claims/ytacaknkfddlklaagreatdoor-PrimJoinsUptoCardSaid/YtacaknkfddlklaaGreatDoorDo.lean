/- Contract of prim.Do, by what the table holds. -/
import Derived.Test.YtacaknkfddlklaaGreatDoorFits
import Derived.Test.YtacaknkfddlklaaGreatDoorUnary
import Derived.Test.YtacaknkfddlklaaGreatDoorAddInts
set_option linter.unusedVariables false
set_option linter.unusedSimpArgs false
namespace Go.Proofs.YtacaknkfddlklaaGreatDoor
open Go.RowKit Go.IntWalk Go.ChangeMaps Go.MapKept

/-- within Do: the constant's box, the result's box -/
def DoSt (w : World) (a0 a1 a2 a3 a4 : Value) (w' : World) : Prop :=
  w'.cell? ⟨w.heap.size, 0, none⟩ = some a0 ∧ w'.cell? ⟨w.heap.size, 1, none⟩ = some a1 ∧ w'.cell? ⟨w.heap.size, 2, none⟩ = some a2 ∧ w'.cell? ⟨w.heap.size, 3, none⟩ = some a3 ∧ w'.cell? ⟨w.heap.size, 4, none⟩ = some a4 ∧
  w'.cell? ⟨w.heap.size + 1, 0, none⟩ = some (.int .i64 0) ∧ w'.cell? ⟨w.heap.size + 1, 1, none⟩ = some (.int .i64 0) ∧ w'.cell? ⟨w.heap.size + 1, 2, none⟩ = some (.string ⟨#[]⟩) ∧ w'.cell? ⟨w.heap.size + 1, 3, none⟩ = some (.slice none 0 0) ∧ w'.cell? ⟨w.heap.size + 1, 4, none⟩ = some (.slice none 0 0) ∧
  (∀ i, w'.frozen? ⟨w.heap.size + 1, i, none⟩ = false) ∧ Below w.heap.size w w'
theorem DoSt.made (w : World) (a0 a1 a2 a3 a4 : Value) : DoSt w a0 a1 a2 a3 a4 ((w.alloc (.cells #[a0, a1, a2, a3, a4] 25)).alloc (cellsV 0 0)) := by
  have h : (w.alloc (.cells #[a0, a1, a2, a3, a4] 25)).heap.size = w.heap.size + 1 := by simp
  refine ⟨?_, ?_, ?_, ?_, ?_, ?_, ?_, ?_, ?_, ?_, fun i => ?_, two_alloc _ _ _⟩
  · exact bcell ((Below.refl _ _).alloc (Nat.le_refl _) _) (World.cell?_alloc_at _ _ _ _ rfl)
  · exact bcell ((Below.refl _ _).alloc (Nat.le_refl _) _) (World.cell?_alloc_at _ _ _ _ rfl)
  · exact bcell ((Below.refl _ _).alloc (Nat.le_refl _) _) (World.cell?_alloc_at _ _ _ _ rfl)
  · exact bcell ((Below.refl _ _).alloc (Nat.le_refl _) _) (World.cell?_alloc_at _ _ _ _ rfl)
  · exact bcell ((Below.refl _ _).alloc (Nat.le_refl _) _) (World.cell?_alloc_at _ _ _ _ rfl)
  · rw [← h]; exact World.cell?_alloc_at _ _ _ _ rfl
  · rw [← h]; exact World.cell?_alloc_at _ _ _ _ rfl
  · rw [← h]; exact World.cell?_alloc_at _ _ _ _ rfl
  · rw [← h]; exact World.cell?_alloc_at _ _ _ _ rfl
  · rw [← h]; exact World.cell?_alloc_at _ _ _ _ rfl
  · rw [← h]; exact World.frozen?_alloc_at _ _ _ _ rfl
theorem lt_of_cell {w : World} {b o : Nat} {v : Value} (h : w.cell? ⟨b, o, none⟩ = some v) : b < w.heap.size := World.block_lt_of_cell? w ⟨b, o, none⟩ h
theorem DoSt.below {w w1 w2 : World} {a0 a1 a2 a3 a4 : Value} (h : DoSt w a0 a1 a2 a3 a4 w1) (hb : Below w1.heap.size w1 w2) : DoSt w a0 a1 a2 a3 a4 w2 := by
  obtain ⟨h0, h1, h2, h3, h4, r0, r1, r2, r3, r4, hf, hw⟩ := h
  exact ⟨bcell hb h0, bcell hb h1, bcell hb h2, bcell hb h3, bcell hb h4, bcell hb r0, bcell hb r1, bcell hb r2, bcell hb r3, bcell hb r4, fun i => (World.frozen?_of_block (a := ⟨w.heap.size + 1, i, none⟩) (hb.block _ (lt_of_cell r0))).trans (hf i), bthen hw hb⟩
theorem five_sets {B : Nat} {a w : World} (h : Below B a w) {b : Nat} (hb : B ≤ b) (o0 o1 o2 o3 o4 : Nat) (v0 v1 v2 v3 v4 : Value) : Below B a (((((w.setCell ⟨b, o0, none⟩ v0).setCell ⟨b, o1, none⟩ v1).setCell ⟨b, o2, none⟩ v2).setCell ⟨b, o3, none⟩ v3).setCell ⟨b, o4, none⟩ v4) :=
  ((((h.setCell hb _).setCell hb _).setCell hb _).setCell hb _).setCell hb _
set_option maxRecDepth 20000 in
set_option maxHeartbeats 1000000 in
/-- what may not be handed in: the trap -/
theorem prim_Do_bad (op : Int) (x : V) (l : List V) (v : Value) (A : Option Addr) (c : Nat) (ok : Nat → Prop) (w : World) (hv : RdV ok w v x) (hls : RdVs ok w (.slice A l.length c) 0 l) (hlc : l.length ≤ c) (hcm : c ≤ 9223372036854775807) (hl : Hid (CodeLaid w)) (h24 : op ≠ 24) (hfit : (pureB op && fitsS op x l) = false) :
    Calls Tryz.prog 12 #[.int .i64 op, v, .slice A l.length c] w (PlainPost w 0 0 3) := by
  obtain ⟨A1, c1, B1, d1, rfl, h1, h2, h3, h4, h5, h6, h7⟩ := hv.form
  have Hv := Lib.hid hv
  have Hls := Lib.hid hls
  have HS := Lib.hid (DoSt.made w (.int .i64 x.kind) (.int .i64 x.num) (.string ⟨x.str.toArray⟩) (.slice A1 x.parts.length c1) (.slice B1 x.keys.length d1))
  have HP := Lib.hid (fun W => prim_Pure op W)
  have HF := Lib.hid (fun W hv hls hl => prim_fits op x l (valV x A1 c1 B1 d1) A c ok W hv hls hlc hcm hl h24)
  cases hp : pureB op with
  | false =>
    rw [hp] at HP
    clear hp hv hls h24 hfit
    go_enter Tryz.func12, Tryz.ntmps12
    go_wp2_with fail
    refine (HP.out _).mono ?_
    rintro e w1 ⟨rfl, rfl⟩
    go_wp2_with fail
    refine (prim_trapped _ _).mono ?_
    rintro e w1 ⟨rfl, rfl⟩
    go_wp2
    refine bodyPost_ret (v := .tuple #[aggV 0 0, .int .i64 3]) ?_ rfl ⟨rfl, three_alloc _ _ _ _⟩
    rw [results_cell_tmp rfl]
    go_simp
  | true =>
    rw [hp] at HP
    rw [hp, Bool.true_and] at hfit
    rw [hfit] at HF
    clear hp hv hls h24 hfit
    go_enter Tryz.func12, Tryz.ntmps12
    go_wp2_with fail
    refine (HP.out _).mono ?_
    rintro e w1 ⟨rfl, rfl⟩
    go_wp2_with fail
    refine (HF.out _ (Hv.out.below (two_alloc _ _ _)) (Hls.out.below (two_alloc _ _ _)) (Lib.hid (hl.out.below (two_alloc _ _ _)))).mono ?_
    rintro e w1 ⟨rfl, hb⟩
    have hst := HS.out.below hb
    obtain ⟨h0, h1, h2, h3, h4, r0, r1, r2, r3, r4, hf, hw⟩ := hst
    have hf0 := hf 0
    have hf1 := hf 1
    have hf2 := hf 2
    have hf3 := hf 3
    have hf4 := hf 4
    have Hw := Lib.hid hw
    have R0 := fun O : Obj => bcell ((Below.refl _ w1).alloc (Nat.le_refl _) O) r0
    have R1 := fun O : Obj => bcell ((Below.refl _ w1).alloc (Nat.le_refl _) O) r1
    have R2 := fun O : Obj => bcell ((Below.refl _ w1).alloc (Nat.le_refl _) O) r2
    have R3 := fun O : Obj => bcell ((Below.refl _ w1).alloc (Nat.le_refl _) O) r3
    have R4 := fun O : Obj => bcell ((Below.refl _ w1).alloc (Nat.le_refl _) O) r4
    have hfo := fun (O : Obj) i => (World.frozen?_of_block (a := ⟨w.heap.size + 1, i, none⟩) (((Below.refl _ w1).alloc (Nat.le_refl _) O).block _ (lt_of_cell r0))).trans (hf i)
    clear hb hw hf
    go_wp2_with fail
    refine (prim_trapped _ _).mono ?_
    rintro e w1 ⟨rfl, rfl⟩
    go_wp2
    refine bodyPost_ret (v := .tuple #[aggV 0 0, .int .i64 3]) ?_ rfl ⟨rfl, five_sets (bthen Hw.out ((Below.refl _ _).alloc (Nat.le_refl _) _)) (Nat.le_succ _) _ _ _ _ _ _ _ _ _ _⟩
    rw [results_cell_tmp rfl]
    go_simp

theorem Good.plain {w : World} {b k f : Nat} {v : Value} (h : Good w b k v) (hf : plainF k = some f) (hi : intsF k = none) (hd : divF k = none) (ho : ordF k = none) : v = .func (.func f) #[] #[] := by
  rcases h with ⟨g, h1, h2⟩ | ⟨g, p, h1, _⟩ | ⟨g, p, q, h1, _⟩ | ⟨g, p, h1, _⟩
  · rw [hf] at h1; cases h1; exact h2
  · rw [hi] at h1; cases h1
  · rw [hd] at h1; cases h1
  · rw [ho] at h1; cases h1
theorem Good.ints {w : World} {b k f : Nat} {v : Value} (h : Good w b k v) (hf : intsF k = some f) (hi : plainF k = none) (hd : divF k = none) (ho : ordF k = none) : ∃ p, v = clos 103 p ∧ w.cell? ⟨p, 0, none⟩ = some (.func (.func f) #[] #[]) := by
  rcases h with ⟨g, h1, h2⟩ | ⟨g, p, h1, h2, h3, h4⟩ | ⟨g, p, q, h1, _⟩ | ⟨g, p, h1, _⟩
  · rw [hi] at h1; cases h1
  · rw [hf] at h1; cases h1; exact ⟨p, h2, h4⟩
  · rw [hd] at h1; cases h1
  · rw [ho] at h1; cases h1
theorem Good.div {w : World} {b k f : Nat} {v : Value} (h : Good w b k v) (hf : divF k = some f) (hi : plainF k = none) (hd : intsF k = none) (ho : ordF k = none) : ∃ p q, v = clos 103 p ∧ w.cell? ⟨p, 0, none⟩ = some (clos 104 q) ∧ w.cell? ⟨q, 0, none⟩ = some (.func (.func f) #[] #[]) := by
  rcases h with ⟨g, h1, h2⟩ | ⟨g, p, h1, h2, h3, h4⟩ | ⟨g, p, q, h1, h2, h3, h4, h5, h6⟩ | ⟨g, p, h1, _⟩
  · rw [hi] at h1; cases h1
  · rw [hd] at h1; cases h1
  · rw [hf] at h1; cases h1; exact ⟨p, q, h2, h5, h6⟩
  · rw [ho] at h1; cases h1
theorem Good.ord {w : World} {b k f : Nat} {v : Value} (h : Good w b k v) (hf : ordF k = some f) (hi : plainF k = none) (hd : intsF k = none) (ho : divF k = none) : ∃ p, v = clos 106 p ∧ w.cell? ⟨p, 0, none⟩ = some (.func (.func f) #[] #[]) := by
  rcases h with ⟨g, h1, h2⟩ | ⟨g, p, h1, h2, h3, h4⟩ | ⟨g, p, q, h1, h2, h3, h4, h5, h6⟩ | ⟨g, p, h1, h2, h3, h4⟩
  · rw [hi] at h1; cases h1
  · rw [hd] at h1; cases h1
  · rw [ho] at h1; cases h1
  · rw [hf] at h1; cases h1; exact ⟨p, h2, h4⟩
end Go.Proofs.YtacaknkfddlklaaGreatDoor
