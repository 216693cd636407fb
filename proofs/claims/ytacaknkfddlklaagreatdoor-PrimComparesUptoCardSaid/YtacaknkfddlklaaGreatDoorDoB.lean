/- Contract of prim.Do, by what the table holds. prim.Do at an operation, by what the function in its table answers. Printed by gen_doops.py. prim.Do at numbers. Contracts of the statements' number and shown. -/
import Derived.Test.YtacaknkfddlklaaGreatDoorTakesB
import Derived.Test.YtacaknkfddlklaaGreatDoorIntsB
import Derived.Test.YtacaknkfddlklaaGreatDoorValB
set_option linter.unusedVariables false
set_option linter.unusedSimpArgs false
namespace Go.Proofs.YtacaknkfddlklaaGreatDoor
open Go.RowKit Go.IntWalk Go.ChangeMaps Go.MapKept

/-- within Do: the constant's box, the result's box -/
def DoSt (w : World) (a0 a1 a2 a3 a4 : Value) (w' : World) : Prop :=
  w'.cell? ⟨w.heap.size, 0, none⟩ = some a0 ∧ w'.cell? ⟨w.heap.size, 1, none⟩ = some a1 ∧ w'.cell? ⟨w.heap.size, 2, none⟩ = some a2 ∧ w'.cell? ⟨w.heap.size, 3, none⟩ = some a3 ∧ w'.cell? ⟨w.heap.size, 4, none⟩ = some a4 ∧
  w'.cell? ⟨w.heap.size + 1, 0, none⟩ = some (.int .i64 0) ∧ w'.cell? ⟨w.heap.size + 1, 1, none⟩ = some (.int .i64 0) ∧ w'.cell? ⟨w.heap.size + 1, 2, none⟩ = some (.string ⟨#[]⟩) ∧ w'.cell? ⟨w.heap.size + 1, 3, none⟩ = some (.slice none 0 0) ∧ w'.cell? ⟨w.heap.size + 1, 4, none⟩ = some (.slice none 0 0) ∧
  (∀ i, w'.frozen? ⟨w.heap.size + 1, i, none⟩ = false) ∧ Below w.heap.size w w'
theorem DoSt.made (w : World) (a0 a1 a2 a3 a4 : Value) : DoSt w a0 a1 a2 a3 a4 ((w.alloc (.cells #[a0, a1, a2, a3, a4] 25)).alloc (cellsV 0 0)) := by
  have h : (w.alloc (.cells #[a0, a1, a2, a3, a4] 25)).heap.size = w.heap.size + 1 := by simp
  refine ⟨?_, ?_, ?_, ?_, ?_, ?_, ?_, ?_, ?_, ?_, fun i => ?_, two_alloc _ _ _⟩
  · exact bcell ((Below.refl _ _).alloc (Nat.le_refl _) _) (World.cell?_alloc_at _ _ _ _ rfl)
  · exact bcell ((Below.refl _ _).alloc (Nat.le_refl _) _) (World.cell?_alloc_at _ _ _ _ rfl)
  · exact bcell ((Below.refl _ _).alloc (Nat.le_refl _) _) (World.cell?_alloc_at _ _ _ _ rfl)
  · exact bcell ((Below.refl _ _).alloc (Nat.le_refl _) _) (World.cell?_alloc_at _ _ _ _ rfl)
  · exact bcell ((Below.refl _ _).alloc (Nat.le_refl _) _) (World.cell?_alloc_at _ _ _ _ rfl)
  · rw [← h]; exact World.cell?_alloc_at _ _ _ _ rfl
  · rw [← h]; exact World.cell?_alloc_at _ _ _ _ rfl
  · rw [← h]; exact World.cell?_alloc_at _ _ _ _ rfl
  · rw [← h]; exact World.cell?_alloc_at _ _ _ _ rfl
  · rw [← h]; exact World.cell?_alloc_at _ _ _ _ rfl
  · rw [← h]; exact World.frozen?_alloc_at _ _ _ _ rfl
theorem lt_of_cell {w : World} {b o : Nat} {v : Value} (h : w.cell? ⟨b, o, none⟩ = some v) : b < w.heap.size := World.block_lt_of_cell? w ⟨b, o, none⟩ h
theorem DoSt.below {w w1 w2 : World} {a0 a1 a2 a3 a4 : Value} (h : DoSt w a0 a1 a2 a3 a4 w1) (hb : Below w1.heap.size w1 w2) : DoSt w a0 a1 a2 a3 a4 w2 := by
  obtain ⟨h0, h1, h2, h3, h4, r0, r1, r2, r3, r4, hf, hw⟩ := h
  exact ⟨bcell hb h0, bcell hb h1, bcell hb h2, bcell hb h3, bcell hb h4, bcell hb r0, bcell hb r1, bcell hb r2, bcell hb r3, bcell hb r4, fun i => (World.frozen?_of_block (a := ⟨w.heap.size + 1, i, none⟩) (hb.block _ (lt_of_cell r0))).trans (hf i), bthen hw hb⟩
theorem five_sets {B : Nat} {a w : World} (h : Below B a w) {b : Nat} (hb : B ≤ b) (o0 o1 o2 o3 o4 : Nat) (v0 v1 v2 v3 v4 : Value) : Below B a (((((w.setCell ⟨b, o0, none⟩ v0).setCell ⟨b, o1, none⟩ v1).setCell ⟨b, o2, none⟩ v2).setCell ⟨b, o3, none⟩ v3).setCell ⟨b, o4, none⟩ v4) :=
  ((((h.setCell hb _).setCell hb _).setCell hb _).setCell hb _).setCell hb _
set_option maxRecDepth 20000 in
set_option maxHeartbeats 1000000 in
/-- what may not be handed in: the trap -/
theorem prim_Do_bad (op : Int) (x : V) (l : List V) (v : Value) (A : Option Addr) (c : Nat) (ok : Nat → Prop) (w : World) (hv : RdV ok w v x) (hls : RdVs ok w (.slice A l.length c) 0 l) (hlc : l.length ≤ c) (hcm : c ≤ 9223372036854775807) (hl : Hid (CodeLaid w)) (h24 : op ≠ 24) (hfit : (pureB op && fitsS op x l) = false) :
    Calls Tryz.prog 12 #[.int .i64 op, v, .slice A l.length c] w (PlainPost w 0 0 3) := by
  obtain ⟨A1, c1, B1, d1, rfl, h1, h2, h3, h4, h5, h6, h7⟩ := hv.form
  have Hv := Lib.hid hv
  have Hls := Lib.hid hls
  have HS := Lib.hid (DoSt.made w (.int .i64 x.kind) (.int .i64 x.num) (.string ⟨x.str.toArray⟩) (.slice A1 x.parts.length c1) (.slice B1 x.keys.length d1))
  have HP := Lib.hid (fun W => prim_Pure op W)
  have HF := Lib.hid (fun W hv hls hl => prim_fits op x l (valV x A1 c1 B1 d1) A c ok W hv hls hlc hcm hl h24)
  cases hp : pureB op with
  | false =>
    rw [hp] at HP
    clear hp hv hls h24 hfit
    go_enter Tryz.func12, Tryz.ntmps12
    go_wp2_with fail
    refine (HP.out _).mono ?_
    rintro e w1 ⟨rfl, rfl⟩
    go_wp2_with fail
    refine (prim_trapped _ _).mono ?_
    rintro e w1 ⟨rfl, rfl⟩
    go_wp2
    refine bodyPost_ret (v := .tuple #[aggV 0 0, .int .i64 3]) ?_ rfl ⟨rfl, three_alloc _ _ _ _⟩
    rw [results_cell_tmp rfl]
    go_simp
  | true =>
    rw [hp] at HP
    rw [hp, Bool.true_and] at hfit
    rw [hfit] at HF
    clear hp hv hls h24 hfit
    go_enter Tryz.func12, Tryz.ntmps12
    go_wp2_with fail
    refine (HP.out _).mono ?_
    rintro e w1 ⟨rfl, rfl⟩
    go_wp2_with fail
    refine (HF.out _ (Hv.out.below (two_alloc _ _ _)) (Hls.out.below (two_alloc _ _ _)) (Lib.hid (hl.out.below (two_alloc _ _ _)))).mono ?_
    rintro e w1 ⟨rfl, hb⟩
    have hst := HS.out.below hb
    obtain ⟨h0, h1, h2, h3, h4, r0, r1, r2, r3, r4, hf, hw⟩ := hst
    have hf0 := hf 0
    have hf1 := hf 1
    have hf2 := hf 2
    have hf3 := hf 3
    have hf4 := hf 4
    have Hw := Lib.hid hw
    have R0 := fun O : Obj => bcell ((Below.refl _ w1).alloc (Nat.le_refl _) O) r0
    have R1 := fun O : Obj => bcell ((Below.refl _ w1).alloc (Nat.le_refl _) O) r1
    have R2 := fun O : Obj => bcell ((Below.refl _ w1).alloc (Nat.le_refl _) O) r2
    have R3 := fun O : Obj => bcell ((Below.refl _ w1).alloc (Nat.le_refl _) O) r3
    have R4 := fun O : Obj => bcell ((Below.refl _ w1).alloc (Nat.le_refl _) O) r4
    have hfo := fun (O : Obj) i => (World.frozen?_of_block (a := ⟨w.heap.size + 1, i, none⟩) (((Below.refl _ w1).alloc (Nat.le_refl _) O).block _ (lt_of_cell r0))).trans (hf i)
    clear hb hw hf
    go_wp2_with fail
    refine (prim_trapped _ _).mono ?_
    rintro e w1 ⟨rfl, rfl⟩
    go_wp2
    refine bodyPost_ret (v := .tuple #[aggV 0 0, .int .i64 3]) ?_ rfl ⟨rfl, five_sets (bthen Hw.out ((Below.refl _ _).alloc (Nat.le_refl _) _)) (Nat.le_succ _) _ _ _ _ _ _ _ _ _ _⟩
    rw [results_cell_tmp rfl]
    go_simp

theorem Good.plain {w : World} {b k f : Nat} {v : Value} (h : Good w b k v) (hf : plainF k = some f) (hi : intsF k = none) (hd : divF k = none) (ho : ordF k = none) : v = .func (.func f) #[] #[] := by
  rcases h with ⟨g, h1, h2⟩ | ⟨g, p, h1, _⟩ | ⟨g, p, q, h1, _⟩ | ⟨g, p, h1, _⟩
  · rw [hf] at h1; cases h1; exact h2
  · rw [hi] at h1; cases h1
  · rw [hd] at h1; cases h1
  · rw [ho] at h1; cases h1
theorem Good.ints {w : World} {b k f : Nat} {v : Value} (h : Good w b k v) (hf : intsF k = some f) (hi : plainF k = none) (hd : divF k = none) (ho : ordF k = none) : ∃ p, v = clos 103 p ∧ w.cell? ⟨p, 0, none⟩ = some (.func (.func f) #[] #[]) := by
  rcases h with ⟨g, h1, h2⟩ | ⟨g, p, h1, h2, h3, h4⟩ | ⟨g, p, q, h1, _⟩ | ⟨g, p, h1, _⟩
  · rw [hi] at h1; cases h1
  · rw [hf] at h1; cases h1; exact ⟨p, h2, h4⟩
  · rw [hd] at h1; cases h1
  · rw [ho] at h1; cases h1
theorem Good.div {w : World} {b k f : Nat} {v : Value} (h : Good w b k v) (hf : divF k = some f) (hi : plainF k = none) (hd : intsF k = none) (ho : ordF k = none) : ∃ p q, v = clos 103 p ∧ w.cell? ⟨p, 0, none⟩ = some (clos 104 q) ∧ w.cell? ⟨q, 0, none⟩ = some (.func (.func f) #[] #[]) := by
  rcases h with ⟨g, h1, h2⟩ | ⟨g, p, h1, h2, h3, h4⟩ | ⟨g, p, q, h1, h2, h3, h4, h5, h6⟩ | ⟨g, p, h1, _⟩
  · rw [hi] at h1; cases h1
  · rw [hd] at h1; cases h1
  · rw [hf] at h1; cases h1; exact ⟨p, q, h2, h5, h6⟩
  · rw [ho] at h1; cases h1
theorem Good.ord {w : World} {b k f : Nat} {v : Value} (h : Good w b k v) (hf : ordF k = some f) (hi : plainF k = none) (hd : intsF k = none) (ho : divF k = none) : ∃ p, v = clos 106 p ∧ w.cell? ⟨p, 0, none⟩ = some (.func (.func f) #[] #[]) := by
  rcases h with ⟨g, h1, h2⟩ | ⟨g, p, h1, h2, h3, h4⟩ | ⟨g, p, q, h1, h2, h3, h4, h5, h6⟩ | ⟨g, p, h1, h2, h3, h4⟩
  · rw [hi] at h1; cases h1
  · rw [hd] at h1; cases h1
  · rw [ho] at h1; cases h1
  · rw [hf] at h1; cases h1; exact ⟨p, h2, h4⟩
end Go.Proofs.YtacaknkfddlklaaGreatDoor
namespace Go.Proofs.YtacaknkfddlklaaGreatDoor
open Go.RowKit Go.IntWalk Go.ChangeMaps Go.MapKept

theorem ans_sets {w w3 : World} {n b : Nat} {v : Value} {X : V} (h : RdV (newB n) w3 v X) (hb : b < n) (h1 : w.heap.size < b) (hn : w.heap.size ≤ n) (o0 o1 o2 o3 o4 : Nat) (v0 v1 v2 v3 v4 : Value) :
    RdV (newB w.heap.size) (((((w3.setCell ⟨b, o0, none⟩ v0).setCell ⟨b, o1, none⟩ v1).setCell ⟨b, o2, none⟩ v2).setCell ⟨b, o3, none⟩ v3).setCell ⟨b, o4, none⟩ v4) v X := by
  have hf : Fr (fun k => k = b) w3 (((((w3.setCell ⟨b, o0, none⟩ v0).setCell ⟨b, o1, none⟩ v1).setCell ⟨b, o2, none⟩ v2).setCell ⟨b, o3, none⟩ v3).setCell ⟨b, o4, none⟩ v4) :=
    ((((((Fr.refl (fun k => k = b) w3).setCell (p := ⟨b, o0, none⟩) rfl v0).setCell (p := ⟨b, o1, none⟩) rfl v1).setCell (p := ⟨b, o2, none⟩) rfl v2).setCell (p := ⟨b, o3, none⟩) rfl v3).setCell (p := ⟨b, o4, none⟩) rfl v4)
  exact (h.fr hf fun k _ hk e => by simp only [newB] at hk; omega).imp fun k hk => Nat.le_trans hn hk
set_option maxRecDepth 20000 in
set_option maxHeartbeats 2000000 in
theorem prim_Do_10 (x : V) (l : List V) (v : Value) (A : Option Addr) (c : Nat) (ok : Nat → Prop) (w : World) (hv : RdV ok w v x) (hls : RdVs ok w (.slice A l.length c) 0 l) (hlc : l.length ≤ c) (hcm : c ≤ 9223372036854775807) (hl : Hid (CodeLaid w)) (hfit : fitsS 10 x l = true) (X : V) (t : Int)
    (hcall : ∀ w1, Below w.heap.size w w1 → Calls Tryz.prog 46 #[v, .slice A l.length c] w1 (AnsPost w1 X t)) :
    Calls Tryz.prog 12 #[.int .i64 10, v, .slice A l.length c] w (AnsPost w X t) := by
  obtain ⟨A1, c1, B1, d1, rfl, h1, h2, h3, h4, h5, h6, h7⟩ := hv.form
  have Hv := Lib.hid hv
  have Hls := Lib.hid hls
  have HS := Lib.hid (DoSt.made w (.int .i64 x.kind) (.int .i64 x.num) (.string ⟨x.str.toArray⟩) (.slice A1 x.parts.length c1) (.slice B1 x.keys.length d1))
  have HP := Lib.hid (fun W => prim_Pure 10 W)
  have hpk : pureB 10 = true := by decide
  rw [hpk] at HP
  have HF := Lib.hid (fun W hv hls hl => prim_fits 10 x l (valV x A1 c1 B1 d1) A c ok W hv hls hlc hcm hl (by decide))
  rw [hfit] at HF
  have HC := Lib.hid hcall
  clear hpk hv hls hfit hcall
  go_enter Tryz.func12, Tryz.ntmps12
  go_wp2_with fail
  refine (HP.out _).mono ?_
  rintro e w1 ⟨rfl, rfl⟩
  go_wp2_with fail
  refine (HF.out _ (Hv.out.below (two_alloc _ _ _)) (Hls.out.below (two_alloc _ _ _)) (Lib.hid (hl.out.below (two_alloc _ _ _)))).mono ?_
  rintro e wf ⟨rfl, hb⟩
  have HF2 := Lib.hid (HS.out.below (bthen hb (Below.refl _ _).drew))
  have hst := HS.out.below hb
  obtain ⟨h0, h1, h2, h3, h4, r0, r1, r2, r3, r4, hf, hw⟩ := hst
  have Hw := Lib.hid hw
  clear hb hw hf r0 r1 r2 r3 r4 HP HF Hv Hls
  go_wp2_with fail
  go_region_with (first | (go_at_call 30; refine (prim_table _).mono ?_; rintro e wt ⟨b, rfl, ht⟩; obtain ⟨fv, hlk, hg⟩ := ht.1.lookup (P := Tryz.prog) (k := 3) (e := 51) (t := 52) Tryz.underlying3 Tryz.underlying52 (by omega) 0 (by omega) (z := 10) (by decide); have hgp := hg.plain rfl rfl rfl rfl; subst hgp; clear hg; have HD := Lib.hid (HF2.out.below ht.2.1); obtain ⟨h0, h1, h2, h3, h4, r0, r1, r2, r3, r4, hf, hw⟩ := HF2.out.below ht.2.1; have Hw2 := Lib.hid hw; clear hw hf ht) | (go_at_call 46; refine (HC.out _ Hw2.out).mono ?_; rintro e w3 ⟨vr, rfl, hvr, hb3⟩; obtain ⟨A2, c2, B2, d2, rfl, _⟩ := hvr.form; have HV := Lib.hid hvr; have HD3 := Lib.hid (HD.out.below hb3); clear h0 h1 h2 h3 h4 r0 r1 r2 r3 r4 hb3 hvr; obtain ⟨h0, h1, h2, h3, h4, r0, r1, r2, r3, r4, hf, hw⟩ := HD3.out; have hf0 := hf 0; have hf1 := hf 1; have hf2 := hf 2; have hf3 := hf 3; have hf4 := hf 4; have Hw3 := Lib.hid hw; clear hw hf))
  all_goals go_wp2
  all_goals refine bodyPost_ret (v := .tuple #[valV X A2 c2 B2 d2, .int .i64 t]) ?_ rfl ⟨_, rfl, ans_sets HV.out (lt_of_cell HD.out.2.2.2.2.2.1) (Nat.lt_succ_self _) Hw2.out.size _ _ _ _ _ _ _ _ _ _, five_sets Hw3.out (Nat.le_succ _) _ _ _ _ _ _ _ _ _ _⟩
  all_goals rw [results_cell_tmp rfl]
  all_goals go_simp
set_option maxRecDepth 20000 in
set_option maxHeartbeats 2000000 in
theorem prim_Do_11 (x : V) (l : List V) (v : Value) (A : Option Addr) (c : Nat) (ok : Nat → Prop) (w : World) (hv : RdV ok w v x) (hls : RdVs ok w (.slice A l.length c) 0 l) (hlc : l.length ≤ c) (hcm : c ≤ 9223372036854775807) (hl : Hid (CodeLaid w)) (hfit : fitsS 11 x l = true) (X : V) (t : Int)
    (hcall : ∀ w1 p, Below w.heap.size w w1 → w1.cell? ⟨p, 0, none⟩ = some (.func (.func 48) #[] #[]) → Calls Tryz.prog 103 #[v, .slice A l.length c, .pointer (some ⟨p, 0, none⟩)] w1 (AnsPost w1 X t)) :
    Calls Tryz.prog 12 #[.int .i64 11, v, .slice A l.length c] w (AnsPost w X t) := by
  obtain ⟨A1, c1, B1, d1, rfl, h1, h2, h3, h4, h5, h6, h7⟩ := hv.form
  have Hv := Lib.hid hv
  have Hls := Lib.hid hls
  have HS := Lib.hid (DoSt.made w (.int .i64 x.kind) (.int .i64 x.num) (.string ⟨x.str.toArray⟩) (.slice A1 x.parts.length c1) (.slice B1 x.keys.length d1))
  have HP := Lib.hid (fun W => prim_Pure 11 W)
  have hpk : pureB 11 = true := by decide
  rw [hpk] at HP
  have HF := Lib.hid (fun W hv hls hl => prim_fits 11 x l (valV x A1 c1 B1 d1) A c ok W hv hls hlc hcm hl (by decide))
  rw [hfit] at HF
  have HC := Lib.hid hcall
  clear hpk hv hls hfit hcall
  go_enter Tryz.func12, Tryz.ntmps12
  go_wp2_with fail
  refine (HP.out _).mono ?_
  rintro e w1 ⟨rfl, rfl⟩
  go_wp2_with fail
  refine (HF.out _ (Hv.out.below (two_alloc _ _ _)) (Hls.out.below (two_alloc _ _ _)) (Lib.hid (hl.out.below (two_alloc _ _ _)))).mono ?_
  rintro e wf ⟨rfl, hb⟩
  have HF2 := Lib.hid (HS.out.below (bthen hb (Below.refl _ _).drew))
  have hst := HS.out.below hb
  obtain ⟨h0, h1, h2, h3, h4, r0, r1, r2, r3, r4, hf, hw⟩ := hst
  have Hw := Lib.hid hw
  clear hb hw hf r0 r1 r2 r3 r4 HP HF Hv Hls
  go_wp2_with fail
  go_region_with (first | (go_at_call 30; refine (prim_table _).mono ?_; rintro e wt ⟨b, rfl, ht⟩; obtain ⟨fv, hlk, hg⟩ := ht.1.lookup (P := Tryz.prog) (k := 3) (e := 51) (t := 52) Tryz.underlying3 Tryz.underlying52 (by omega) 1 (by omega) (z := 11) (by decide); obtain ⟨p, rfl, hcl⟩ := hg.ints rfl rfl rfl rfl; have Hcl := Lib.hid hcl; clear hcl hg; have HD := Lib.hid (HF2.out.below ht.2.1); obtain ⟨h0, h1, h2, h3, h4, r0, r1, r2, r3, r4, hf, hw⟩ := HF2.out.below ht.2.1; have Hw2 := Lib.hid hw; clear hw hf ht) | (go_at_call 103; refine (HC.out _ _ Hw2.out Hcl.out).mono ?_; rintro e w3 ⟨vr, rfl, hvr, hb3⟩; obtain ⟨A2, c2, B2, d2, rfl, _⟩ := hvr.form; have HV := Lib.hid hvr; have HD3 := Lib.hid (HD.out.below hb3); clear h0 h1 h2 h3 h4 r0 r1 r2 r3 r4 hb3 hvr; obtain ⟨h0, h1, h2, h3, h4, r0, r1, r2, r3, r4, hf, hw⟩ := HD3.out; have hf0 := hf 0; have hf1 := hf 1; have hf2 := hf 2; have hf3 := hf 3; have hf4 := hf 4; have Hw3 := Lib.hid hw; clear hw hf))
  all_goals go_wp2
  all_goals refine bodyPost_ret (v := .tuple #[valV X A2 c2 B2 d2, .int .i64 t]) ?_ rfl ⟨_, rfl, ans_sets HV.out (lt_of_cell HD.out.2.2.2.2.2.1) (Nat.lt_succ_self _) Hw2.out.size _ _ _ _ _ _ _ _ _ _, five_sets Hw3.out (Nat.le_succ _) _ _ _ _ _ _ _ _ _ _⟩
  all_goals rw [results_cell_tmp rfl]
  all_goals go_simp
set_option maxRecDepth 20000 in
set_option maxHeartbeats 2000000 in
theorem prim_Do_12 (x : V) (l : List V) (v : Value) (A : Option Addr) (c : Nat) (ok : Nat → Prop) (w : World) (hv : RdV ok w v x) (hls : RdVs ok w (.slice A l.length c) 0 l) (hlc : l.length ≤ c) (hcm : c ≤ 9223372036854775807) (hl : Hid (CodeLaid w)) (hfit : fitsS 12 x l = true) (X : V) (t : Int)
    (hcall : ∀ w1 p, Below w.heap.size w w1 → w1.cell? ⟨p, 0, none⟩ = some (.func (.func 50) #[] #[]) → Calls Tryz.prog 103 #[v, .slice A l.length c, .pointer (some ⟨p, 0, none⟩)] w1 (AnsPost w1 X t)) :
    Calls Tryz.prog 12 #[.int .i64 12, v, .slice A l.length c] w (AnsPost w X t) := by
  obtain ⟨A1, c1, B1, d1, rfl, h1, h2, h3, h4, h5, h6, h7⟩ := hv.form
  have Hv := Lib.hid hv
  have Hls := Lib.hid hls
  have HS := Lib.hid (DoSt.made w (.int .i64 x.kind) (.int .i64 x.num) (.string ⟨x.str.toArray⟩) (.slice A1 x.parts.length c1) (.slice B1 x.keys.length d1))
  have HP := Lib.hid (fun W => prim_Pure 12 W)
  have hpk : pureB 12 = true := by decide
  rw [hpk] at HP
  have HF := Lib.hid (fun W hv hls hl => prim_fits 12 x l (valV x A1 c1 B1 d1) A c ok W hv hls hlc hcm hl (by decide))
  rw [hfit] at HF
  have HC := Lib.hid hcall
  clear hpk hv hls hfit hcall
  go_enter Tryz.func12, Tryz.ntmps12
  go_wp2_with fail
  refine (HP.out _).mono ?_
  rintro e w1 ⟨rfl, rfl⟩
  go_wp2_with fail
  refine (HF.out _ (Hv.out.below (two_alloc _ _ _)) (Hls.out.below (two_alloc _ _ _)) (Lib.hid (hl.out.below (two_alloc _ _ _)))).mono ?_
  rintro e wf ⟨rfl, hb⟩
  have HF2 := Lib.hid (HS.out.below (bthen hb (Below.refl _ _).drew))
  have hst := HS.out.below hb
  obtain ⟨h0, h1, h2, h3, h4, r0, r1, r2, r3, r4, hf, hw⟩ := hst
  have Hw := Lib.hid hw
  clear hb hw hf r0 r1 r2 r3 r4 HP HF Hv Hls
  go_wp2_with fail
  go_region_with (first | (go_at_call 30; refine (prim_table _).mono ?_; rintro e wt ⟨b, rfl, ht⟩; obtain ⟨fv, hlk, hg⟩ := ht.1.lookup (P := Tryz.prog) (k := 3) (e := 51) (t := 52) Tryz.underlying3 Tryz.underlying52 (by omega) 2 (by omega) (z := 12) (by decide); obtain ⟨p, rfl, hcl⟩ := hg.ints rfl rfl rfl rfl; have Hcl := Lib.hid hcl; clear hcl hg; have HD := Lib.hid (HF2.out.below ht.2.1); obtain ⟨h0, h1, h2, h3, h4, r0, r1, r2, r3, r4, hf, hw⟩ := HF2.out.below ht.2.1; have Hw2 := Lib.hid hw; clear hw hf ht) | (go_at_call 103; refine (HC.out _ _ Hw2.out Hcl.out).mono ?_; rintro e w3 ⟨vr, rfl, hvr, hb3⟩; obtain ⟨A2, c2, B2, d2, rfl, _⟩ := hvr.form; have HV := Lib.hid hvr; have HD3 := Lib.hid (HD.out.below hb3); clear h0 h1 h2 h3 h4 r0 r1 r2 r3 r4 hb3 hvr; obtain ⟨h0, h1, h2, h3, h4, r0, r1, r2, r3, r4, hf, hw⟩ := HD3.out; have hf0 := hf 0; have hf1 := hf 1; have hf2 := hf 2; have hf3 := hf 3; have hf4 := hf 4; have Hw3 := Lib.hid hw; clear hw hf))
  all_goals go_wp2
  all_goals refine bodyPost_ret (v := .tuple #[valV X A2 c2 B2 d2, .int .i64 t]) ?_ rfl ⟨_, rfl, ans_sets HV.out (lt_of_cell HD.out.2.2.2.2.2.1) (Nat.lt_succ_self _) Hw2.out.size _ _ _ _ _ _ _ _ _ _, five_sets Hw3.out (Nat.le_succ _) _ _ _ _ _ _ _ _ _ _⟩
  all_goals rw [results_cell_tmp rfl]
  all_goals go_simp
set_option maxRecDepth 20000 in
set_option maxHeartbeats 2000000 in
theorem prim_Do_13 (x : V) (l : List V) (v : Value) (A : Option Addr) (c : Nat) (ok : Nat → Prop) (w : World) (hv : RdV ok w v x) (hls : RdVs ok w (.slice A l.length c) 0 l) (hlc : l.length ≤ c) (hcm : c ≤ 9223372036854775807) (hl : Hid (CodeLaid w)) (hfit : fitsS 13 x l = true) (X : V) (t : Int)
    (hcall : ∀ w1 p q, Below w.heap.size w w1 → w1.cell? ⟨p, 0, none⟩ = some (clos 104 q) → w1.cell? ⟨q, 0, none⟩ = some (.func (.func 52) #[] #[]) → Calls Tryz.prog 103 #[v, .slice A l.length c, .pointer (some ⟨p, 0, none⟩)] w1 (AnsPost w1 X t)) :
    Calls Tryz.prog 12 #[.int .i64 13, v, .slice A l.length c] w (AnsPost w X t) := by
  obtain ⟨A1, c1, B1, d1, rfl, h1, h2, h3, h4, h5, h6, h7⟩ := hv.form
  have Hv := Lib.hid hv
  have Hls := Lib.hid hls
  have HS := Lib.hid (DoSt.made w (.int .i64 x.kind) (.int .i64 x.num) (.string ⟨x.str.toArray⟩) (.slice A1 x.parts.length c1) (.slice B1 x.keys.length d1))
  have HP := Lib.hid (fun W => prim_Pure 13 W)
  have hpk : pureB 13 = true := by decide
  rw [hpk] at HP
  have HF := Lib.hid (fun W hv hls hl => prim_fits 13 x l (valV x A1 c1 B1 d1) A c ok W hv hls hlc hcm hl (by decide))
  rw [hfit] at HF
  have HC := Lib.hid hcall
  clear hpk hv hls hfit hcall
  go_enter Tryz.func12, Tryz.ntmps12
  go_wp2_with fail
  refine (HP.out _).mono ?_
  rintro e w1 ⟨rfl, rfl⟩
  go_wp2_with fail
  refine (HF.out _ (Hv.out.below (two_alloc _ _ _)) (Hls.out.below (two_alloc _ _ _)) (Lib.hid (hl.out.below (two_alloc _ _ _)))).mono ?_
  rintro e wf ⟨rfl, hb⟩
  have HF2 := Lib.hid (HS.out.below (bthen hb (Below.refl _ _).drew))
  have hst := HS.out.below hb
  obtain ⟨h0, h1, h2, h3, h4, r0, r1, r2, r3, r4, hf, hw⟩ := hst
  have Hw := Lib.hid hw
  clear hb hw hf r0 r1 r2 r3 r4 HP HF Hv Hls
  go_wp2_with fail
  go_region_with (first | (go_at_call 30; refine (prim_table _).mono ?_; rintro e wt ⟨b, rfl, ht⟩; obtain ⟨fv, hlk, hg⟩ := ht.1.lookup (P := Tryz.prog) (k := 3) (e := 51) (t := 52) Tryz.underlying3 Tryz.underlying52 (by omega) 3 (by omega) (z := 13) (by decide); obtain ⟨p, q, rfl, hcl, hcl2⟩ := hg.div rfl rfl rfl rfl; have Hcl := Lib.hid hcl; have Hcl2 := Lib.hid hcl2; clear hcl hcl2 hg; have HD := Lib.hid (HF2.out.below ht.2.1); obtain ⟨h0, h1, h2, h3, h4, r0, r1, r2, r3, r4, hf, hw⟩ := HF2.out.below ht.2.1; have Hw2 := Lib.hid hw; clear hw hf ht) | (go_at_call 103; refine (HC.out _ _ _ Hw2.out Hcl.out Hcl2.out).mono ?_; rintro e w3 ⟨vr, rfl, hvr, hb3⟩; obtain ⟨A2, c2, B2, d2, rfl, _⟩ := hvr.form; have HV := Lib.hid hvr; have HD3 := Lib.hid (HD.out.below hb3); clear h0 h1 h2 h3 h4 r0 r1 r2 r3 r4 hb3 hvr; obtain ⟨h0, h1, h2, h3, h4, r0, r1, r2, r3, r4, hf, hw⟩ := HD3.out; have hf0 := hf 0; have hf1 := hf 1; have hf2 := hf 2; have hf3 := hf 3; have hf4 := hf 4; have Hw3 := Lib.hid hw; clear hw hf))
  all_goals go_wp2
  all_goals refine bodyPost_ret (v := .tuple #[valV X A2 c2 B2 d2, .int .i64 t]) ?_ rfl ⟨_, rfl, ans_sets HV.out (lt_of_cell HD.out.2.2.2.2.2.1) (Nat.lt_succ_self _) Hw2.out.size _ _ _ _ _ _ _ _ _ _, five_sets Hw3.out (Nat.le_succ _) _ _ _ _ _ _ _ _ _ _⟩
  all_goals rw [results_cell_tmp rfl]
  all_goals go_simp
set_option maxRecDepth 20000 in
set_option maxHeartbeats 2000000 in
theorem prim_Do_14 (x : V) (l : List V) (v : Value) (A : Option Addr) (c : Nat) (ok : Nat → Prop) (w : World) (hv : RdV ok w v x) (hls : RdVs ok w (.slice A l.length c) 0 l) (hlc : l.length ≤ c) (hcm : c ≤ 9223372036854775807) (hl : Hid (CodeLaid w)) (hfit : fitsS 14 x l = true) (X : V) (t : Int)
    (hcall : ∀ w1 p q, Below w.heap.size w w1 → w1.cell? ⟨p, 0, none⟩ = some (clos 104 q) → w1.cell? ⟨q, 0, none⟩ = some (.func (.func 53) #[] #[]) → Calls Tryz.prog 103 #[v, .slice A l.length c, .pointer (some ⟨p, 0, none⟩)] w1 (AnsPost w1 X t)) :
    Calls Tryz.prog 12 #[.int .i64 14, v, .slice A l.length c] w (AnsPost w X t) := by
  obtain ⟨A1, c1, B1, d1, rfl, h1, h2, h3, h4, h5, h6, h7⟩ := hv.form
  have Hv := Lib.hid hv
  have Hls := Lib.hid hls
  have HS := Lib.hid (DoSt.made w (.int .i64 x.kind) (.int .i64 x.num) (.string ⟨x.str.toArray⟩) (.slice A1 x.parts.length c1) (.slice B1 x.keys.length d1))
  have HP := Lib.hid (fun W => prim_Pure 14 W)
  have hpk : pureB 14 = true := by decide
  rw [hpk] at HP
  have HF := Lib.hid (fun W hv hls hl => prim_fits 14 x l (valV x A1 c1 B1 d1) A c ok W hv hls hlc hcm hl (by decide))
  rw [hfit] at HF
  have HC := Lib.hid hcall
  clear hpk hv hls hfit hcall
  go_enter Tryz.func12, Tryz.ntmps12
  go_wp2_with fail
  refine (HP.out _).mono ?_
  rintro e w1 ⟨rfl, rfl⟩
  go_wp2_with fail
  refine (HF.out _ (Hv.out.below (two_alloc _ _ _)) (Hls.out.below (two_alloc _ _ _)) (Lib.hid (hl.out.below (two_alloc _ _ _)))).mono ?_
  rintro e wf ⟨rfl, hb⟩
  have HF2 := Lib.hid (HS.out.below (bthen hb (Below.refl _ _).drew))
  have hst := HS.out.below hb
  obtain ⟨h0, h1, h2, h3, h4, r0, r1, r2, r3, r4, hf, hw⟩ := hst
  have Hw := Lib.hid hw
  clear hb hw hf r0 r1 r2 r3 r4 HP HF Hv Hls
  go_wp2_with fail
  go_region_with (first | (go_at_call 30; refine (prim_table _).mono ?_; rintro e wt ⟨b, rfl, ht⟩; obtain ⟨fv, hlk, hg⟩ := ht.1.lookup (P := Tryz.prog) (k := 3) (e := 51) (t := 52) Tryz.underlying3 Tryz.underlying52 (by omega) 4 (by omega) (z := 14) (by decide); obtain ⟨p, q, rfl, hcl, hcl2⟩ := hg.div rfl rfl rfl rfl; have Hcl := Lib.hid hcl; have Hcl2 := Lib.hid hcl2; clear hcl hcl2 hg; have HD := Lib.hid (HF2.out.below ht.2.1); obtain ⟨h0, h1, h2, h3, h4, r0, r1, r2, r3, r4, hf, hw⟩ := HF2.out.below ht.2.1; have Hw2 := Lib.hid hw; clear hw hf ht) | (go_at_call 103; refine (HC.out _ _ _ Hw2.out Hcl.out Hcl2.out).mono ?_; rintro e w3 ⟨vr, rfl, hvr, hb3⟩; obtain ⟨A2, c2, B2, d2, rfl, _⟩ := hvr.form; have HV := Lib.hid hvr; have HD3 := Lib.hid (HD.out.below hb3); clear h0 h1 h2 h3 h4 r0 r1 r2 r3 r4 hb3 hvr; obtain ⟨h0, h1, h2, h3, h4, r0, r1, r2, r3, r4, hf, hw⟩ := HD3.out; have hf0 := hf 0; have hf1 := hf 1; have hf2 := hf 2; have hf3 := hf 3; have hf4 := hf 4; have Hw3 := Lib.hid hw; clear hw hf))
  all_goals go_wp2
  all_goals refine bodyPost_ret (v := .tuple #[valV X A2 c2 B2 d2, .int .i64 t]) ?_ rfl ⟨_, rfl, ans_sets HV.out (lt_of_cell HD.out.2.2.2.2.2.1) (Nat.lt_succ_self _) Hw2.out.size _ _ _ _ _ _ _ _ _ _, five_sets Hw3.out (Nat.le_succ _) _ _ _ _ _ _ _ _ _ _⟩
  all_goals rw [results_cell_tmp rfl]
  all_goals go_simp
set_option maxRecDepth 20000 in
set_option maxHeartbeats 2000000 in
theorem prim_Do_15 (x : V) (l : List V) (v : Value) (A : Option Addr) (c : Nat) (ok : Nat → Prop) (w : World) (hv : RdV ok w v x) (hls : RdVs ok w (.slice A l.length c) 0 l) (hlc : l.length ≤ c) (hcm : c ≤ 9223372036854775807) (hl : Hid (CodeLaid w)) (hfit : fitsS 15 x l = true) (X : V) (t : Int)
    (hcall : ∀ w1, Below w.heap.size w w1 → Calls Tryz.prog 54 #[v, .slice A l.length c] w1 (AnsPost w1 X t)) :
    Calls Tryz.prog 12 #[.int .i64 15, v, .slice A l.length c] w (AnsPost w X t) := by
  obtain ⟨A1, c1, B1, d1, rfl, h1, h2, h3, h4, h5, h6, h7⟩ := hv.form
  have Hv := Lib.hid hv
  have Hls := Lib.hid hls
  have HS := Lib.hid (DoSt.made w (.int .i64 x.kind) (.int .i64 x.num) (.string ⟨x.str.toArray⟩) (.slice A1 x.parts.length c1) (.slice B1 x.keys.length d1))
  have HP := Lib.hid (fun W => prim_Pure 15 W)
  have hpk : pureB 15 = true := by decide
  rw [hpk] at HP
  have HF := Lib.hid (fun W hv hls hl => prim_fits 15 x l (valV x A1 c1 B1 d1) A c ok W hv hls hlc hcm hl (by decide))
  rw [hfit] at HF
  have HC := Lib.hid hcall
  clear hpk hv hls hfit hcall
  go_enter Tryz.func12, Tryz.ntmps12
  go_wp2_with fail
  refine (HP.out _).mono ?_
  rintro e w1 ⟨rfl, rfl⟩
  go_wp2_with fail
  refine (HF.out _ (Hv.out.below (two_alloc _ _ _)) (Hls.out.below (two_alloc _ _ _)) (Lib.hid (hl.out.below (two_alloc _ _ _)))).mono ?_
  rintro e wf ⟨rfl, hb⟩
  have HF2 := Lib.hid (HS.out.below (bthen hb (Below.refl _ _).drew))
  have hst := HS.out.below hb
  obtain ⟨h0, h1, h2, h3, h4, r0, r1, r2, r3, r4, hf, hw⟩ := hst
  have Hw := Lib.hid hw
  clear hb hw hf r0 r1 r2 r3 r4 HP HF Hv Hls
  go_wp2_with fail
  go_region_with (first | (go_at_call 30; refine (prim_table _).mono ?_; rintro e wt ⟨b, rfl, ht⟩; obtain ⟨fv, hlk, hg⟩ := ht.1.lookup (P := Tryz.prog) (k := 3) (e := 51) (t := 52) Tryz.underlying3 Tryz.underlying52 (by omega) 5 (by omega) (z := 15) (by decide); have hgp := hg.plain rfl rfl rfl rfl; subst hgp; clear hg; have HD := Lib.hid (HF2.out.below ht.2.1); obtain ⟨h0, h1, h2, h3, h4, r0, r1, r2, r3, r4, hf, hw⟩ := HF2.out.below ht.2.1; have Hw2 := Lib.hid hw; clear hw hf ht) | (go_at_call 54; refine (HC.out _ Hw2.out).mono ?_; rintro e w3 ⟨vr, rfl, hvr, hb3⟩; obtain ⟨A2, c2, B2, d2, rfl, _⟩ := hvr.form; have HV := Lib.hid hvr; have HD3 := Lib.hid (HD.out.below hb3); clear h0 h1 h2 h3 h4 r0 r1 r2 r3 r4 hb3 hvr; obtain ⟨h0, h1, h2, h3, h4, r0, r1, r2, r3, r4, hf, hw⟩ := HD3.out; have hf0 := hf 0; have hf1 := hf 1; have hf2 := hf 2; have hf3 := hf 3; have hf4 := hf 4; have Hw3 := Lib.hid hw; clear hw hf))
  all_goals go_wp2
  all_goals refine bodyPost_ret (v := .tuple #[valV X A2 c2 B2 d2, .int .i64 t]) ?_ rfl ⟨_, rfl, ans_sets HV.out (lt_of_cell HD.out.2.2.2.2.2.1) (Nat.lt_succ_self _) Hw2.out.size _ _ _ _ _ _ _ _ _ _, five_sets Hw3.out (Nat.le_succ _) _ _ _ _ _ _ _ _ _ _⟩
  all_goals rw [results_cell_tmp rfl]
  all_goals go_simp
end Go.Proofs.YtacaknkfddlklaaGreatDoor
namespace Go.Proofs.YtacaknkfddlklaaGreatDoor
open Go.RowKit Go.IntWalk

/-- a number -/
def numb (a : Int) : V := .mk 2 a [] [] []
theorem right_numb (a : Int) : rightB (numb a) = true := by
  simp [rightB, numb, wS, wL, plainS]
theorem right_zero : rightB V.zero = true := by
  simp [rightB, V.zero, wS, wL, plainS]
abbrev aggK (k n : Int) (A : Option Addr) (c : Nat) (B : Option Addr) (d : Nat) : Value := .agg #[.int .i64 k, .int .i64 n, .string ⟨#[]⟩, .slice A 0 c, .slice B 0 d]
/-- a plain answer -/
def KPost (w : World) (k n t : Int) (e : Ending) (w' : World) : Prop := ∃ A c B d, e = .returned (.tuple #[aggK k n A c B d, .int .i64 t]) ∧ c ≤ 9223372036854775807 ∧ d ≤ 9223372036854775807 ∧ Below w.heap.size w w'
theorem KPost.of {w : World} {k n t : Int} {e : Ending} {w' : World} (h : AnsPost w (.mk k n [] [] []) t e w') : KPost w k n t e w' := by
  obtain ⟨v, he, hv, hb⟩ := h
  obtain ⟨A, c, B, d, rfl, h1, h2, h3, h4, _⟩ := hv.form
  exact ⟨A, c, B, d, he, h2, h4, hb⟩
theorem AnsPost.of {w : World} {k n t : Int} (hk : i64ok k) (hn : i64ok n) {e : Ending} {w' : World} (h : PlainPost w k n t e w') : AnsPost w (.mk k n [] [] []) t e w' :=
  ⟨_, h.1, RdV.plain k n [] hk hn (by simp), h.2⟩
/-- a row of two numbers; of one -/
theorem two_list {ok : Nat → Prop} {w : World} {g : Nat} (hg : ok g) {a b : Int} (ha : i64ok a) (hb : i64ok b) {A1 B1 A2 B2 : Option Addr} {c1 d1 c2 d2 : Nat} (n cap : Nat) (h1 : c1 ≤ 9223372036854775807) (h2 : d1 ≤ 9223372036854775807) (h3 : c2 ≤ 9223372036854775807) (h4 : d2 ≤ 9223372036854775807)
    (hc : ∀ i (h : i < 10), w.cell? ⟨g, i, none⟩ = some (#[.int .i64 2, .int .i64 a, .string ⟨#[]⟩, .slice A1 0 c1, .slice B1 0 d1, .int .i64 2, .int .i64 b, .string ⟨#[]⟩, .slice A2 0 c2, .slice B2 0 d2][i]'h)) :
    RdVs ok w (.slice (some ⟨g, 0, none⟩) n cap) 0 [numb a, numb b] := by
  have hn : ∀ (z : Int) (hz : i64ok z) (A B : Option Addr) (c d : Nat), c ≤ 9223372036854775807 → d ≤ 9223372036854775807 → RdV ok w (aggK 2 z A c B d) (numb z) := fun z hz A B c d hc hd =>
    RdV.close (i64ok_small (by decide) (by decide)) hz (by simp) ⟨A, c, rfl, by simp, hc, by simp⟩ (by unfold RdVs; trivial) (RdK.nil _ _ _ _ hd)
  unfold RdVs RdVs RdVs
  exact ⟨⟨g, 0, _, ⟨0, n, cap, rfl, rfl, hg⟩, ⟨_, _, _, _, _, rfl, hc 0 (by decide), hc 1 (by decide), hc 2 (by decide), hc 3 (by decide), hc 4 (by decide)⟩, hn a ha _ _ _ _ h1 h2⟩,
    ⟨g, 5, _, ⟨0, n, cap, rfl, rfl, hg⟩, ⟨_, _, _, _, _, rfl, hc 5 (by decide), hc 6 (by decide), hc 7 (by decide), hc 8 (by decide), hc 9 (by decide)⟩, hn b hb _ _ _ _ h3 h4⟩, trivial⟩
theorem one_list {ok : Nat → Prop} {w : World} {g : Nat} (hg : ok g) {a : Int} (ha : i64ok a) {A1 B1 : Option Addr} {c1 d1 : Nat} (n cap : Nat) (h1 : c1 ≤ 9223372036854775807) (h2 : d1 ≤ 9223372036854775807)
    (hc : ∀ i (h : i < 5), w.cell? ⟨g, i, none⟩ = some (#[.int .i64 2, .int .i64 a, .string ⟨#[]⟩, .slice A1 0 c1, .slice B1 0 d1][i]'h)) :
    RdVs ok w (.slice (some ⟨g, 0, none⟩) n cap) 0 [numb a] := by
  have hn : ∀ (z : Int) (hz : i64ok z) (A B : Option Addr) (c d : Nat), c ≤ 9223372036854775807 → d ≤ 9223372036854775807 → RdV ok w (aggK 2 z A c B d) (numb z) := fun z hz A B c d hc hd =>
    RdV.close (i64ok_small (by decide) (by decide)) hz (by simp) ⟨A, c, rfl, by simp, hc, by simp⟩ (by unfold RdVs; trivial) (RdK.nil _ _ _ _ hd)
  unfold RdVs RdVs
  exact ⟨⟨g, 0, _, ⟨0, n, cap, rfl, rfl, hg⟩, ⟨_, _, _, _, _, rfl, hc 0 (by decide), hc 1 (by decide), hc 2 (by decide), hc 3 (by decide), hc 4 (by decide)⟩, hn a ha _ _ _ _ h1 h2⟩, trivial⟩
theorem fits_two (op a b : Int) (h : op = 10 ∨ op = 11 ∨ op = 12 ∨ op = 13 ∨ op = 14) : fitsS op V.zero [numb a, numb b] = true := by
  have ht : takesS op 2 V.zero = 2 := by rcases h with rfl | rfl | rfl | rfl | rfl <;> rfl
  have h26 : op ≠ 26 := by omega
  simp [fitsS, right_numb, right_zero, ht, h26]
theorem fits_one (a : Int) : fitsS 15 V.zero [numb a] = true := by
  have ht : takesS 15 1 V.zero = 1 := rfl
  simp [fitsS, right_numb, right_zero, ht]
theorem zero_rd (ok : Nat → Prop) (w : World) : RdV ok w (aggV 0 0) V.zero := RdV.plain 0 0 [] (i64ok_small (by decide) (by decide)) (i64ok_small (by decide) (by decide)) (by simp)
theorem i64ok_2 : i64ok 2 := i64ok_small (by decide) (by decide)
theorem i64ok_0 : i64ok 0 := i64ok_small (by decide) (by decide)

theorem do10 (a b : Int) (A : Option Addr) (c : Nat) (ok : Nat → Prop) (w : World) (hls : RdVs ok w (.slice A 2 c) 0 [numb a, numb b]) (hlc : 2 ≤ c) (hcm : c ≤ 9223372036854775807) (hl : Hid (CodeLaid w)) :
    Calls Tryz.prog 12 #[.int .i64 10, aggV 0 0, .slice A 2 c] w (KPost w 2 (wrap64 (a + b)) 0) :=
  (prim_Do_10 V.zero [numb a, numb b] _ A c ok w (zero_rd _ _) hls hlc hcm hl (fits_two 10 a b (by simp)) (.mk 2 (wrap64 (a + b)) [] [] []) 0
    (fun w1 hb => (prim_add_ints (numb a) (numb b) rfl rfl _ _ _ _ _ A c ok w1 (hls.below hb)).mono fun e w' h => AnsPost.of i64ok_2 (i64ok_wrap _) h)).mono fun e w' h => KPost.of h
theorem do11 (a b : Int) (A : Option Addr) (c : Nat) (ok : Nat → Prop) (w : World) (hls : RdVs ok w (.slice A 2 c) 0 [numb a, numb b]) (hlc : 2 ≤ c) (hcm : c ≤ 9223372036854775807) (hl : Hid (CodeLaid w)) :
    Calls Tryz.prog 12 #[.int .i64 11, aggV 0 0, .slice A 2 c] w (KPost w 2 (wrap64 (a - b)) 0) :=
  (prim_Do_11 V.zero [numb a, numb b] _ A c ok w (zero_rd _ _) hls hlc hcm hl (fits_two 11 a b (by simp)) (.mk 2 (wrap64 (a - b)) [] [] []) 0
    (fun w1 p hb hp => (prim_ints_sub (numb a) (numb b) rfl rfl _ _ _ _ _ A c p ok w1 (hls.below hb) hp).mono fun e w' h => AnsPost.of i64ok_2 (i64ok_wrap _) h)).mono fun e w' h => KPost.of h
theorem do12 (a b : Int) (A : Option Addr) (c : Nat) (ok : Nat → Prop) (w : World) (hls : RdVs ok w (.slice A 2 c) 0 [numb a, numb b]) (hlc : 2 ≤ c) (hcm : c ≤ 9223372036854775807) (hl : Hid (CodeLaid w)) :
    Calls Tryz.prog 12 #[.int .i64 12, aggV 0 0, .slice A 2 c] w (KPost w 2 (wrap64 (a * b)) 0) :=
  (prim_Do_12 V.zero [numb a, numb b] _ A c ok w (zero_rd _ _) hls hlc hcm hl (fits_two 12 a b (by simp)) (.mk 2 (wrap64 (a * b)) [] [] []) 0
    (fun w1 p hb hp => (prim_ints_mul (numb a) (numb b) rfl rfl _ _ _ _ _ A c p ok w1 (hls.below hb) hp).mono fun e w' h => AnsPost.of i64ok_2 (i64ok_wrap _) h)).mono fun e w' h => KPost.of h
theorem do13 (a b : Int) (hz : b ≠ 0) (A : Option Addr) (c : Nat) (ok : Nat → Prop) (w : World) (hls : RdVs ok w (.slice A 2 c) 0 [numb a, numb b]) (hlc : 2 ≤ c) (hcm : c ≤ 9223372036854775807) (hl : Hid (CodeLaid w)) :
    Calls Tryz.prog 12 #[.int .i64 13, aggV 0 0, .slice A 2 c] w (KPost w 2 (wrap64 (a.tdiv b)) 0) :=
  (prim_Do_13 V.zero [numb a, numb b] _ A c ok w (zero_rd _ _) hls hlc hcm hl (fits_two 13 a b (by simp)) (.mk 2 (wrap64 (a.tdiv b)) [] [] []) 0
    (fun w1 p q hb hp hq => (prim_ints_quo (numb a) (numb b) rfl rfl hz _ _ _ _ _ A c p q ok w1 (hls.below hb) hp hq).mono fun e w' h => AnsPost.of i64ok_2 (i64ok_wrap _) h)).mono fun e w' h => KPost.of h
theorem tmod_le_self {a : Int} (b : Int) (h : 0 ≤ a) : a.tmod b ≤ a := by
  obtain ⟨m, rfl⟩ := Int.eq_ofNat_of_zero_le h
  have hm := Nat.mod_le m b.natAbs
  rcases Int.natAbs_eq b with hb | hb
  · rw [hb, ← Int.ofNat_tmod]; omega
  · rw [hb, Int.tmod_neg, ← Int.ofNat_tmod]; omega
theorem i64ok_tmod {a b : Int} (ha : i64ok a) (hb : i64ok b) (hz : b ≠ 0) : i64ok (a.tmod b) := by
  unfold i64ok at *
  rcases Int.le_total 0 a with h | h
  · have h1 : 0 ≤ a.tmod b := Int.tmod_nonneg b h
    have h2 : a.tmod b ≤ a := tmod_le_self b h
    omega
  · have e : a.tmod b = - ((-a).tmod b) := by rw [Int.neg_tmod, Int.neg_neg]
    have h1 : 0 ≤ (-a).tmod b := Int.tmod_nonneg b (by omega)
    have h2 : (-a).tmod b ≤ -a := tmod_le_self b (by omega)
    omega
theorem do14 (a b : Int) (ha : i64ok a) (hb0 : i64ok b) (hz : b ≠ 0) (A : Option Addr) (c : Nat) (ok : Nat → Prop) (w : World) (hls : RdVs ok w (.slice A 2 c) 0 [numb a, numb b]) (hlc : 2 ≤ c) (hcm : c ≤ 9223372036854775807) (hl : Hid (CodeLaid w)) :
    Calls Tryz.prog 12 #[.int .i64 14, aggV 0 0, .slice A 2 c] w (KPost w 2 (a.tmod b) 0) :=
  (prim_Do_14 V.zero [numb a, numb b] _ A c ok w (zero_rd _ _) hls hlc hcm hl (fits_two 14 a b (by simp)) (.mk 2 (a.tmod b) [] [] []) 0
    (fun w1 p q hb hp hq => (prim_ints_rem (numb a) (numb b) rfl rfl hz _ _ _ _ _ A c p q ok w1 (hls.below hb) hp hq).mono fun e w' h => AnsPost.of i64ok_2 (i64ok_tmod ha hb0 hz) h)).mono fun e w' h => KPost.of h
theorem do13z (a : Int) (A : Option Addr) (c : Nat) (ok : Nat → Prop) (w : World) (hls : RdVs ok w (.slice A 2 c) 0 [numb a, numb 0]) (hlc : 2 ≤ c) (hcm : c ≤ 9223372036854775807) (hl : Hid (CodeLaid w)) :
    Calls Tryz.prog 12 #[.int .i64 13, aggV 0 0, .slice A 2 c] w (KPost w 0 0 1) :=
  (prim_Do_13 V.zero [numb a, numb 0] _ A c ok w (zero_rd _ _) hls hlc hcm hl (fits_two 13 a 0 (by simp)) (.mk 0 0 [] [] []) 1
    (fun w1 p q hb hp hq => (prim_ints_quo0 (numb a) (numb 0) rfl rfl rfl _ _ _ _ _ A c p q ok w1 (hls.below hb) hp hq).mono fun e w' h => AnsPost.of i64ok_0 i64ok_0 h)).mono fun e w' h => KPost.of h
theorem do14z (a : Int) (A : Option Addr) (c : Nat) (ok : Nat → Prop) (w : World) (hls : RdVs ok w (.slice A 2 c) 0 [numb a, numb 0]) (hlc : 2 ≤ c) (hcm : c ≤ 9223372036854775807) (hl : Hid (CodeLaid w)) :
    Calls Tryz.prog 12 #[.int .i64 14, aggV 0 0, .slice A 2 c] w (KPost w 0 0 1) :=
  (prim_Do_14 V.zero [numb a, numb 0] _ A c ok w (zero_rd _ _) hls hlc hcm hl (fits_two 14 a 0 (by simp)) (.mk 0 0 [] [] []) 1
    (fun w1 p q hb hp hq => (prim_ints_rem0 (numb a) (numb 0) rfl rfl rfl _ _ _ _ _ A c p q ok w1 (hls.below hb) hp hq).mono fun e w' h => AnsPost.of i64ok_0 i64ok_0 h)).mono fun e w' h => KPost.of h
theorem do15 (a : Int) (A : Option Addr) (c : Nat) (ok : Nat → Prop) (w : World) (hls : RdVs ok w (.slice A 1 c) 0 [numb a]) (hlc : 1 ≤ c) (hcm : c ≤ 9223372036854775807) (hl : Hid (CodeLaid w)) :
    Calls Tryz.prog 12 #[.int .i64 15, aggV 0 0, .slice A 1 c] w (KPost w 2 (wrap64 (- a)) 0) :=
  (prim_Do_15 V.zero [numb a] _ A c ok w (zero_rd _ _) hls hlc hcm hl (fits_one a) (.mk 2 (wrap64 (- a)) [] [] []) 0
    (fun w1 hb => (prim_neg (numb a) _ _ _ _ _ A c ok w1 (hls.below hb)).mono fun e w' h => AnsPost.of i64ok_2 (i64ok_wrap _) h)).mono fun e w' h => KPost.of h
end Go.Proofs.YtacaknkfddlklaaGreatDoor
namespace Go.Proofs.YtacaknkfddlklaaGreatDoor
open Go.RowKit Go.IntWalk

set_option maxRecDepth 20000 in
set_option maxHeartbeats 1000000 in
theorem law_number (w : World) (n : Int) :
    Calls Tryz.prog 25 #[.int .i64 n] w fun e w' => e = .returned (aggV 2 n) ∧ w' = w.alloc (cellsV 2 n) := by
  go_enter Tryz.func25, Tryz.ntmps25
  go_wp2
  refine bodyPost_ret (v := aggV 2 n) (by simp [results, Tryz.results25, go_sem]) rfl ⟨rfl, rfl⟩
/-- the row of two numbers, new -/
theorem two_new (w : World) (a b : Int) (ha : i64ok a) (hb : i64ok b) {A1 B1 A2 B2 : Option Addr} {c1 d1 c2 d2 : Nat} (n cap : Nat) (h1 : c1 ≤ 9223372036854775807) (h2 : d1 ≤ 9223372036854775807) (h3 : c2 ≤ 9223372036854775807) (h4 : d2 ≤ 9223372036854775807) {g : Nat} (hg : g = w.heap.size) :
    RdVs (newB 0) (w.alloc (.cells #[.int .i64 2, .int .i64 a, .string ⟨#[]⟩, .slice A1 0 c1, .slice B1 0 d1, .int .i64 2, .int .i64 b, .string ⟨#[]⟩, .slice A2 0 c2, .slice B2 0 d2] 25)) (.slice (some ⟨g, 0, none⟩) n cap) 0 [numb a, numb b] := by
  subst hg
  refine two_list (A1 := A1) (B1 := B1) (A2 := A2) (B2 := B2) (Nat.zero_le _) ha hb n cap h1 h2 h3 h4 fun i hi => ?_
  rw [World.cell?_alloc_at _ _ _ _ rfl]
  exact Array.getElem?_eq_getElem _
theorem one_new (w : World) (a : Int) (ha : i64ok a) {A1 B1 : Option Addr} {c1 d1 : Nat} (n cap : Nat) (h1 : c1 ≤ 9223372036854775807) (h2 : d1 ≤ 9223372036854775807) {g : Nat} (hg : g = w.heap.size) :
    RdVs (newB 0) (w.alloc (.cells #[.int .i64 2, .int .i64 a, .string ⟨#[]⟩, .slice A1 0 c1, .slice B1 0 d1] 25)) (.slice (some ⟨g, 0, none⟩) n cap) 0 [numb a] := by
  subst hg
  refine one_list (A1 := A1) (B1 := B1) (Nat.zero_le _) ha n cap h1 h2 fun i hi => ?_
  rw [World.cell?_alloc_at _ _ _ _ rfl]
  exact Array.getElem?_eq_getElem _
set_option maxRecDepth 20000 in
set_option maxHeartbeats 1000000 in
theorem prim_shown (w : World) (hl : Hid (CodeLaid w)) :
    Calls Tryz.prog 9 #[] w fun e w' => e = .returned (.bool true) ∧ Below w.heap.size w w' := by
  go_enter Tryz.func9, Tryz.ntmps9
  go_wp2_with fail
  refine (law_number _ _).mono ?_
  rintro e w1 ⟨rfl, rfl⟩
  go_wp2_with fail
  refine (law_number _ _).mono ?_
  rintro e w1 ⟨rfl, rfl⟩
  go_wp2_with fail
  refine (do10 2 3 _ 2 (newB 0) _ (two_new _ 2 3 i64ok_2 (i64ok_small (by decide) (by decide)) 2 2 (by decide) (by decide) (by decide) (by decide) (by simp)) (Nat.le_refl _) (by decide) (Lib.hid (hl.out.below (three_alloc _ _ _ _)))).mono ?_
  rintro e w1 ⟨A, c, B, d, rfl, hc, hd, hb⟩
  have hw : wrap64 (2 + 3) = 5 := by unfold wrap64; decide
  rw [hw]
  have HB := Lib.hid (bthen (three_alloc w _ _ _) hb)
  clear hb hw
  go_wp2
  go_ret
  exact ⟨rfl, HB.out.alloc HB.out.size _⟩
end Go.Proofs.YtacaknkfddlklaaGreatDoor
