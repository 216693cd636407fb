/- prim.Do at an operation, by what the function in its table answers. Printed by gen_doops.py. -/
import Derived.Test.YtacaknkfddlklaaGreatDoorDo
import Derived.Test.YtacaknkfddlklaaGreatDoorAns
set_option linter.unusedVariables false
set_option linter.unusedSimpArgs false
namespace Go.Proofs.YtacaknkfddlklaaGreatDoor
open Go.RowKit Go.IntWalk Go.ChangeMaps Go.MapKept

theorem ans_sets {w w3 : World} {n b : Nat} {v : Value} {X : V} (h : RdV (newB n) w3 v X) (hb : b < n) (h1 : w.heap.size < b) (hn : w.heap.size ≤ n) (o0 o1 o2 o3 o4 : Nat) (v0 v1 v2 v3 v4 : Value) :
    RdV (newB w.heap.size) (((((w3.setCell ⟨b, o0, none⟩ v0).setCell ⟨b, o1, none⟩ v1).setCell ⟨b, o2, none⟩ v2).setCell ⟨b, o3, none⟩ v3).setCell ⟨b, o4, none⟩ v4) v X := by
  have hf : Fr (fun k => k = b) w3 (((((w3.setCell ⟨b, o0, none⟩ v0).setCell ⟨b, o1, none⟩ v1).setCell ⟨b, o2, none⟩ v2).setCell ⟨b, o3, none⟩ v3).setCell ⟨b, o4, none⟩ v4) :=
    ((((((Fr.refl (fun k => k = b) w3).setCell (p := ⟨b, o0, none⟩) rfl v0).setCell (p := ⟨b, o1, none⟩) rfl v1).setCell (p := ⟨b, o2, none⟩) rfl v2).setCell (p := ⟨b, o3, none⟩) rfl v3).setCell (p := ⟨b, o4, none⟩) rfl v4)
  exact (h.fr hf fun k _ hk e => by simp only [newB] at hk; omega).imp fun k hk => Nat.le_trans hn hk
set_option maxRecDepth 20000 in
set_option maxHeartbeats 2000000 in
theorem prim_Do_10 (x : V) (l : List V) (v : Value) (A : Option Addr) (c : Nat) (ok : Nat → Prop) (w : World) (hv : RdV ok w v x) (hls : RdVs ok w (.slice A l.length c) 0 l) (hlc : l.length ≤ c) (hcm : c ≤ 9223372036854775807) (hl : Hid (CodeLaid w)) (hfit : fitsS 10 x l = true) (X : V) (t : Int)
    (hcall : ∀ w1, Below w.heap.size w w1 → Calls Tryz.prog 46 #[v, .slice A l.length c] w1 (AnsPost w1 X t)) :
    Calls Tryz.prog 12 #[.int .i64 10, v, .slice A l.length c] w (AnsPost w X t) := by
  obtain ⟨A1, c1, B1, d1, rfl, h1, h2, h3, h4, h5, h6, h7⟩ := hv.form
  have Hv := Lib.hid hv
  have Hls := Lib.hid hls
  have HS := Lib.hid (DoSt.made w (.int .i64 x.kind) (.int .i64 x.num) (.string ⟨x.str.toArray⟩) (.slice A1 x.parts.length c1) (.slice B1 x.keys.length d1))
  have HP := Lib.hid (fun W => prim_Pure 10 W)
  have hpk : pureB 10 = true := by decide
  rw [hpk] at HP
  have HF := Lib.hid (fun W hv hls hl => prim_fits 10 x l (valV x A1 c1 B1 d1) A c ok W hv hls hlc hcm hl (by decide))
  rw [hfit] at HF
  have HC := Lib.hid hcall
  clear hpk hv hls hfit hcall
  go_enter Tryz.func12, Tryz.ntmps12
  go_wp2_with fail
  refine (HP.out _).mono ?_
  rintro e w1 ⟨rfl, rfl⟩
  go_wp2_with fail
  refine (HF.out _ (Hv.out.below (two_alloc _ _ _)) (Hls.out.below (two_alloc _ _ _)) (Lib.hid (hl.out.below (two_alloc _ _ _)))).mono ?_
  rintro e wf ⟨rfl, hb⟩
  have HF2 := Lib.hid (HS.out.below (bthen hb (Below.refl _ _).drew))
  have hst := HS.out.below hb
  obtain ⟨h0, h1, h2, h3, h4, r0, r1, r2, r3, r4, hf, hw⟩ := hst
  have Hw := Lib.hid hw
  clear hb hw hf r0 r1 r2 r3 r4 HP HF Hv Hls
  go_wp2_with fail
  go_region_with (first | (go_at_call 30; refine (prim_table _).mono ?_; rintro e wt ⟨b, rfl, ht⟩; obtain ⟨fv, hlk, hg⟩ := ht.1.lookup (P := Tryz.prog) (k := 3) (e := 51) (t := 52) Tryz.underlying3 Tryz.underlying52 (by omega) 0 (by omega) (z := 10) (by decide); have hgp := hg.plain rfl rfl rfl rfl; subst hgp; clear hg; have HD := Lib.hid (HF2.out.below ht.2.1); obtain ⟨h0, h1, h2, h3, h4, r0, r1, r2, r3, r4, hf, hw⟩ := HF2.out.below ht.2.1; have Hw2 := Lib.hid hw; clear hw hf ht) | (go_at_call 46; refine (HC.out _ Hw2.out).mono ?_; rintro e w3 ⟨vr, rfl, hvr, hb3⟩; obtain ⟨A2, c2, B2, d2, rfl, _⟩ := hvr.form; have HV := Lib.hid hvr; have HD3 := Lib.hid (HD.out.below hb3); clear h0 h1 h2 h3 h4 r0 r1 r2 r3 r4 hb3 hvr; obtain ⟨h0, h1, h2, h3, h4, r0, r1, r2, r3, r4, hf, hw⟩ := HD3.out; have hf0 := hf 0; have hf1 := hf 1; have hf2 := hf 2; have hf3 := hf 3; have hf4 := hf 4; have Hw3 := Lib.hid hw; clear hw hf))
  all_goals go_wp2
  all_goals refine bodyPost_ret (v := .tuple #[valV X A2 c2 B2 d2, .int .i64 t]) ?_ rfl ⟨_, rfl, ans_sets HV.out (lt_of_cell HD.out.2.2.2.2.2.1) (Nat.lt_succ_self _) Hw2.out.size _ _ _ _ _ _ _ _ _ _, five_sets Hw3.out (Nat.le_succ _) _ _ _ _ _ _ _ _ _ _⟩
  all_goals rw [results_cell_tmp rfl]
  all_goals go_simp
set_option maxRecDepth 20000 in
set_option maxHeartbeats 2000000 in
theorem prim_Do_11 (x : V) (l : List V) (v : Value) (A : Option Addr) (c : Nat) (ok : Nat → Prop) (w : World) (hv : RdV ok w v x) (hls : RdVs ok w (.slice A l.length c) 0 l) (hlc : l.length ≤ c) (hcm : c ≤ 9223372036854775807) (hl : Hid (CodeLaid w)) (hfit : fitsS 11 x l = true) (X : V) (t : Int)
    (hcall : ∀ w1 p, Below w.heap.size w w1 → w1.cell? ⟨p, 0, none⟩ = some (.func (.func 48) #[] #[]) → Calls Tryz.prog 103 #[v, .slice A l.length c, .pointer (some ⟨p, 0, none⟩)] w1 (AnsPost w1 X t)) :
    Calls Tryz.prog 12 #[.int .i64 11, v, .slice A l.length c] w (AnsPost w X t) := by
  obtain ⟨A1, c1, B1, d1, rfl, h1, h2, h3, h4, h5, h6, h7⟩ := hv.form
  have Hv := Lib.hid hv
  have Hls := Lib.hid hls
  have HS := Lib.hid (DoSt.made w (.int .i64 x.kind) (.int .i64 x.num) (.string ⟨x.str.toArray⟩) (.slice A1 x.parts.length c1) (.slice B1 x.keys.length d1))
  have HP := Lib.hid (fun W => prim_Pure 11 W)
  have hpk : pureB 11 = true := by decide
  rw [hpk] at HP
  have HF := Lib.hid (fun W hv hls hl => prim_fits 11 x l (valV x A1 c1 B1 d1) A c ok W hv hls hlc hcm hl (by decide))
  rw [hfit] at HF
  have HC := Lib.hid hcall
  clear hpk hv hls hfit hcall
  go_enter Tryz.func12, Tryz.ntmps12
  go_wp2_with fail
  refine (HP.out _).mono ?_
  rintro e w1 ⟨rfl, rfl⟩
  go_wp2_with fail
  refine (HF.out _ (Hv.out.below (two_alloc _ _ _)) (Hls.out.below (two_alloc _ _ _)) (Lib.hid (hl.out.below (two_alloc _ _ _)))).mono ?_
  rintro e wf ⟨rfl, hb⟩
  have HF2 := Lib.hid (HS.out.below (bthen hb (Below.refl _ _).drew))
  have hst := HS.out.below hb
  obtain ⟨h0, h1, h2, h3, h4, r0, r1, r2, r3, r4, hf, hw⟩ := hst
  have Hw := Lib.hid hw
  clear hb hw hf r0 r1 r2 r3 r4 HP HF Hv Hls
  go_wp2_with fail
  go_region_with (first | (go_at_call 30; refine (prim_table _).mono ?_; rintro e wt ⟨b, rfl, ht⟩; obtain ⟨fv, hlk, hg⟩ := ht.1.lookup (P := Tryz.prog) (k := 3) (e := 51) (t := 52) Tryz.underlying3 Tryz.underlying52 (by omega) 1 (by omega) (z := 11) (by decide); obtain ⟨p, rfl, hcl⟩ := hg.ints rfl rfl rfl rfl; have Hcl := Lib.hid hcl; clear hcl hg; have HD := Lib.hid (HF2.out.below ht.2.1); obtain ⟨h0, h1, h2, h3, h4, r0, r1, r2, r3, r4, hf, hw⟩ := HF2.out.below ht.2.1; have Hw2 := Lib.hid hw; clear hw hf ht) | (go_at_call 103; refine (HC.out _ _ Hw2.out Hcl.out).mono ?_; rintro e w3 ⟨vr, rfl, hvr, hb3⟩; obtain ⟨A2, c2, B2, d2, rfl, _⟩ := hvr.form; have HV := Lib.hid hvr; have HD3 := Lib.hid (HD.out.below hb3); clear h0 h1 h2 h3 h4 r0 r1 r2 r3 r4 hb3 hvr; obtain ⟨h0, h1, h2, h3, h4, r0, r1, r2, r3, r4, hf, hw⟩ := HD3.out; have hf0 := hf 0; have hf1 := hf 1; have hf2 := hf 2; have hf3 := hf 3; have hf4 := hf 4; have Hw3 := Lib.hid hw; clear hw hf))
  all_goals go_wp2
  all_goals refine bodyPost_ret (v := .tuple #[valV X A2 c2 B2 d2, .int .i64 t]) ?_ rfl ⟨_, rfl, ans_sets HV.out (lt_of_cell HD.out.2.2.2.2.2.1) (Nat.lt_succ_self _) Hw2.out.size _ _ _ _ _ _ _ _ _ _, five_sets Hw3.out (Nat.le_succ _) _ _ _ _ _ _ _ _ _ _⟩
  all_goals rw [results_cell_tmp rfl]
  all_goals go_simp
set_option maxRecDepth 20000 in
set_option maxHeartbeats 2000000 in
theorem prim_Do_12 (x : V) (l : List V) (v : Value) (A : Option Addr) (c : Nat) (ok : Nat → Prop) (w : World) (hv : RdV ok w v x) (hls : RdVs ok w (.slice A l.length c) 0 l) (hlc : l.length ≤ c) (hcm : c ≤ 9223372036854775807) (hl : Hid (CodeLaid w)) (hfit : fitsS 12 x l = true) (X : V) (t : Int)
    (hcall : ∀ w1 p, Below w.heap.size w w1 → w1.cell? ⟨p, 0, none⟩ = some (.func (.func 50) #[] #[]) → Calls Tryz.prog 103 #[v, .slice A l.length c, .pointer (some ⟨p, 0, none⟩)] w1 (AnsPost w1 X t)) :
    Calls Tryz.prog 12 #[.int .i64 12, v, .slice A l.length c] w (AnsPost w X t) := by
  obtain ⟨A1, c1, B1, d1, rfl, h1, h2, h3, h4, h5, h6, h7⟩ := hv.form
  have Hv := Lib.hid hv
  have Hls := Lib.hid hls
  have HS := Lib.hid (DoSt.made w (.int .i64 x.kind) (.int .i64 x.num) (.string ⟨x.str.toArray⟩) (.slice A1 x.parts.length c1) (.slice B1 x.keys.length d1))
  have HP := Lib.hid (fun W => prim_Pure 12 W)
  have hpk : pureB 12 = true := by decide
  rw [hpk] at HP
  have HF := Lib.hid (fun W hv hls hl => prim_fits 12 x l (valV x A1 c1 B1 d1) A c ok W hv hls hlc hcm hl (by decide))
  rw [hfit] at HF
  have HC := Lib.hid hcall
  clear hpk hv hls hfit hcall
  go_enter Tryz.func12, Tryz.ntmps12
  go_wp2_with fail
  refine (HP.out _).mono ?_
  rintro e w1 ⟨rfl, rfl⟩
  go_wp2_with fail
  refine (HF.out _ (Hv.out.below (two_alloc _ _ _)) (Hls.out.below (two_alloc _ _ _)) (Lib.hid (hl.out.below (two_alloc _ _ _)))).mono ?_
  rintro e wf ⟨rfl, hb⟩
  have HF2 := Lib.hid (HS.out.below (bthen hb (Below.refl _ _).drew))
  have hst := HS.out.below hb
  obtain ⟨h0, h1, h2, h3, h4, r0, r1, r2, r3, r4, hf, hw⟩ := hst
  have Hw := Lib.hid hw
  clear hb hw hf r0 r1 r2 r3 r4 HP HF Hv Hls
  go_wp2_with fail
  go_region_with (first | (go_at_call 30; refine (prim_table _).mono ?_; rintro e wt ⟨b, rfl, ht⟩; obtain ⟨fv, hlk, hg⟩ := ht.1.lookup (P := Tryz.prog) (k := 3) (e := 51) (t := 52) Tryz.underlying3 Tryz.underlying52 (by omega) 2 (by omega) (z := 12) (by decide); obtain ⟨p, rfl, hcl⟩ := hg.ints rfl rfl rfl rfl; have Hcl := Lib.hid hcl; clear hcl hg; have HD := Lib.hid (HF2.out.below ht.2.1); obtain ⟨h0, h1, h2, h3, h4, r0, r1, r2, r3, r4, hf, hw⟩ := HF2.out.below ht.2.1; have Hw2 := Lib.hid hw; clear hw hf ht) | (go_at_call 103; refine (HC.out _ _ Hw2.out Hcl.out).mono ?_; rintro e w3 ⟨vr, rfl, hvr, hb3⟩; obtain ⟨A2, c2, B2, d2, rfl, _⟩ := hvr.form; have HV := Lib.hid hvr; have HD3 := Lib.hid (HD.out.below hb3); clear h0 h1 h2 h3 h4 r0 r1 r2 r3 r4 hb3 hvr; obtain ⟨h0, h1, h2, h3, h4, r0, r1, r2, r3, r4, hf, hw⟩ := HD3.out; have hf0 := hf 0; have hf1 := hf 1; have hf2 := hf 2; have hf3 := hf 3; have hf4 := hf 4; have Hw3 := Lib.hid hw; clear hw hf))
  all_goals go_wp2
  all_goals refine bodyPost_ret (v := .tuple #[valV X A2 c2 B2 d2, .int .i64 t]) ?_ rfl ⟨_, rfl, ans_sets HV.out (lt_of_cell HD.out.2.2.2.2.2.1) (Nat.lt_succ_self _) Hw2.out.size _ _ _ _ _ _ _ _ _ _, five_sets Hw3.out (Nat.le_succ _) _ _ _ _ _ _ _ _ _ _⟩
  all_goals rw [results_cell_tmp rfl]
  all_goals go_simp
set_option maxRecDepth 20000 in
set_option maxHeartbeats 2000000 in
theorem prim_Do_13 (x : V) (l : List V) (v : Value) (A : Option Addr) (c : Nat) (ok : Nat → Prop) (w : World) (hv : RdV ok w v x) (hls : RdVs ok w (.slice A l.length c) 0 l) (hlc : l.length ≤ c) (hcm : c ≤ 9223372036854775807) (hl : Hid (CodeLaid w)) (hfit : fitsS 13 x l = true) (X : V) (t : Int)
    (hcall : ∀ w1 p q, Below w.heap.size w w1 → w1.cell? ⟨p, 0, none⟩ = some (clos 104 q) → w1.cell? ⟨q, 0, none⟩ = some (.func (.func 52) #[] #[]) → Calls Tryz.prog 103 #[v, .slice A l.length c, .pointer (some ⟨p, 0, none⟩)] w1 (AnsPost w1 X t)) :
    Calls Tryz.prog 12 #[.int .i64 13, v, .slice A l.length c] w (AnsPost w X t) := by
  obtain ⟨A1, c1, B1, d1, rfl, h1, h2, h3, h4, h5, h6, h7⟩ := hv.form
  have Hv := Lib.hid hv
  have Hls := Lib.hid hls
  have HS := Lib.hid (DoSt.made w (.int .i64 x.kind) (.int .i64 x.num) (.string ⟨x.str.toArray⟩) (.slice A1 x.parts.length c1) (.slice B1 x.keys.length d1))
  have HP := Lib.hid (fun W => prim_Pure 13 W)
  have hpk : pureB 13 = true := by decide
  rw [hpk] at HP
  have HF := Lib.hid (fun W hv hls hl => prim_fits 13 x l (valV x A1 c1 B1 d1) A c ok W hv hls hlc hcm hl (by decide))
  rw [hfit] at HF
  have HC := Lib.hid hcall
  clear hpk hv hls hfit hcall
  go_enter Tryz.func12, Tryz.ntmps12
  go_wp2_with fail
  refine (HP.out _).mono ?_
  rintro e w1 ⟨rfl, rfl⟩
  go_wp2_with fail
  refine (HF.out _ (Hv.out.below (two_alloc _ _ _)) (Hls.out.below (two_alloc _ _ _)) (Lib.hid (hl.out.below (two_alloc _ _ _)))).mono ?_
  rintro e wf ⟨rfl, hb⟩
  have HF2 := Lib.hid (HS.out.below (bthen hb (Below.refl _ _).drew))
  have hst := HS.out.below hb
  obtain ⟨h0, h1, h2, h3, h4, r0, r1, r2, r3, r4, hf, hw⟩ := hst
  have Hw := Lib.hid hw
  clear hb hw hf r0 r1 r2 r3 r4 HP HF Hv Hls
  go_wp2_with fail
  go_region_with (first | (go_at_call 30; refine (prim_table _).mono ?_; rintro e wt ⟨b, rfl, ht⟩; obtain ⟨fv, hlk, hg⟩ := ht.1.lookup (P := Tryz.prog) (k := 3) (e := 51) (t := 52) Tryz.underlying3 Tryz.underlying52 (by omega) 3 (by omega) (z := 13) (by decide); obtain ⟨p, q, rfl, hcl, hcl2⟩ := hg.div rfl rfl rfl rfl; have Hcl := Lib.hid hcl; have Hcl2 := Lib.hid hcl2; clear hcl hcl2 hg; have HD := Lib.hid (HF2.out.below ht.2.1); obtain ⟨h0, h1, h2, h3, h4, r0, r1, r2, r3, r4, hf, hw⟩ := HF2.out.below ht.2.1; have Hw2 := Lib.hid hw; clear hw hf ht) | (go_at_call 103; refine (HC.out _ _ _ Hw2.out Hcl.out Hcl2.out).mono ?_; rintro e w3 ⟨vr, rfl, hvr, hb3⟩; obtain ⟨A2, c2, B2, d2, rfl, _⟩ := hvr.form; have HV := Lib.hid hvr; have HD3 := Lib.hid (HD.out.below hb3); clear h0 h1 h2 h3 h4 r0 r1 r2 r3 r4 hb3 hvr; obtain ⟨h0, h1, h2, h3, h4, r0, r1, r2, r3, r4, hf, hw⟩ := HD3.out; have hf0 := hf 0; have hf1 := hf 1; have hf2 := hf 2; have hf3 := hf 3; have hf4 := hf 4; have Hw3 := Lib.hid hw; clear hw hf))
  all_goals go_wp2
  all_goals refine bodyPost_ret (v := .tuple #[valV X A2 c2 B2 d2, .int .i64 t]) ?_ rfl ⟨_, rfl, ans_sets HV.out (lt_of_cell HD.out.2.2.2.2.2.1) (Nat.lt_succ_self _) Hw2.out.size _ _ _ _ _ _ _ _ _ _, five_sets Hw3.out (Nat.le_succ _) _ _ _ _ _ _ _ _ _ _⟩
  all_goals rw [results_cell_tmp rfl]
  all_goals go_simp
set_option maxRecDepth 20000 in
set_option maxHeartbeats 2000000 in
theorem prim_Do_14 (x : V) (l : List V) (v : Value) (A : Option Addr) (c : Nat) (ok : Nat → Prop) (w : World) (hv : RdV ok w v x) (hls : RdVs ok w (.slice A l.length c) 0 l) (hlc : l.length ≤ c) (hcm : c ≤ 9223372036854775807) (hl : Hid (CodeLaid w)) (hfit : fitsS 14 x l = true) (X : V) (t : Int)
    (hcall : ∀ w1 p q, Below w.heap.size w w1 → w1.cell? ⟨p, 0, none⟩ = some (clos 104 q) → w1.cell? ⟨q, 0, none⟩ = some (.func (.func 53) #[] #[]) → Calls Tryz.prog 103 #[v, .slice A l.length c, .pointer (some ⟨p, 0, none⟩)] w1 (AnsPost w1 X t)) :
    Calls Tryz.prog 12 #[.int .i64 14, v, .slice A l.length c] w (AnsPost w X t) := by
  obtain ⟨A1, c1, B1, d1, rfl, h1, h2, h3, h4, h5, h6, h7⟩ := hv.form
  have Hv := Lib.hid hv
  have Hls := Lib.hid hls
  have HS := Lib.hid (DoSt.made w (.int .i64 x.kind) (.int .i64 x.num) (.string ⟨x.str.toArray⟩) (.slice A1 x.parts.length c1) (.slice B1 x.keys.length d1))
  have HP := Lib.hid (fun W => prim_Pure 14 W)
  have hpk : pureB 14 = true := by decide
  rw [hpk] at HP
  have HF := Lib.hid (fun W hv hls hl => prim_fits 14 x l (valV x A1 c1 B1 d1) A c ok W hv hls hlc hcm hl (by decide))
  rw [hfit] at HF
  have HC := Lib.hid hcall
  clear hpk hv hls hfit hcall
  go_enter Tryz.func12, Tryz.ntmps12
  go_wp2_with fail
  refine (HP.out _).mono ?_
  rintro e w1 ⟨rfl, rfl⟩
  go_wp2_with fail
  refine (HF.out _ (Hv.out.below (two_alloc _ _ _)) (Hls.out.below (two_alloc _ _ _)) (Lib.hid (hl.out.below (two_alloc _ _ _)))).mono ?_
  rintro e wf ⟨rfl, hb⟩
  have HF2 := Lib.hid (HS.out.below (bthen hb (Below.refl _ _).drew))
  have hst := HS.out.below hb
  obtain ⟨h0, h1, h2, h3, h4, r0, r1, r2, r3, r4, hf, hw⟩ := hst
  have Hw := Lib.hid hw
  clear hb hw hf r0 r1 r2 r3 r4 HP HF Hv Hls
  go_wp2_with fail
  go_region_with (first | (go_at_call 30; refine (prim_table _).mono ?_; rintro e wt ⟨b, rfl, ht⟩; obtain ⟨fv, hlk, hg⟩ := ht.1.lookup (P := Tryz.prog) (k := 3) (e := 51) (t := 52) Tryz.underlying3 Tryz.underlying52 (by omega) 4 (by omega) (z := 14) (by decide); obtain ⟨p, q, rfl, hcl, hcl2⟩ := hg.div rfl rfl rfl rfl; have Hcl := Lib.hid hcl; have Hcl2 := Lib.hid hcl2; clear hcl hcl2 hg; have HD := Lib.hid (HF2.out.below ht.2.1); obtain ⟨h0, h1, h2, h3, h4, r0, r1, r2, r3, r4, hf, hw⟩ := HF2.out.below ht.2.1; have Hw2 := Lib.hid hw; clear hw hf ht) | (go_at_call 103; refine (HC.out _ _ _ Hw2.out Hcl.out Hcl2.out).mono ?_; rintro e w3 ⟨vr, rfl, hvr, hb3⟩; obtain ⟨A2, c2, B2, d2, rfl, _⟩ := hvr.form; have HV := Lib.hid hvr; have HD3 := Lib.hid (HD.out.below hb3); clear h0 h1 h2 h3 h4 r0 r1 r2 r3 r4 hb3 hvr; obtain ⟨h0, h1, h2, h3, h4, r0, r1, r2, r3, r4, hf, hw⟩ := HD3.out; have hf0 := hf 0; have hf1 := hf 1; have hf2 := hf 2; have hf3 := hf 3; have hf4 := hf 4; have Hw3 := Lib.hid hw; clear hw hf))
  all_goals go_wp2
  all_goals refine bodyPost_ret (v := .tuple #[valV X A2 c2 B2 d2, .int .i64 t]) ?_ rfl ⟨_, rfl, ans_sets HV.out (lt_of_cell HD.out.2.2.2.2.2.1) (Nat.lt_succ_self _) Hw2.out.size _ _ _ _ _ _ _ _ _ _, five_sets Hw3.out (Nat.le_succ _) _ _ _ _ _ _ _ _ _ _⟩
  all_goals rw [results_cell_tmp rfl]
  all_goals go_simp
set_option maxRecDepth 20000 in
set_option maxHeartbeats 2000000 in
theorem prim_Do_15 (x : V) (l : List V) (v : Value) (A : Option Addr) (c : Nat) (ok : Nat → Prop) (w : World) (hv : RdV ok w v x) (hls : RdVs ok w (.slice A l.length c) 0 l) (hlc : l.length ≤ c) (hcm : c ≤ 9223372036854775807) (hl : Hid (CodeLaid w)) (hfit : fitsS 15 x l = true) (X : V) (t : Int)
    (hcall : ∀ w1, Below w.heap.size w w1 → Calls Tryz.prog 54 #[v, .slice A l.length c] w1 (AnsPost w1 X t)) :
    Calls Tryz.prog 12 #[.int .i64 15, v, .slice A l.length c] w (AnsPost w X t) := by
  obtain ⟨A1, c1, B1, d1, rfl, h1, h2, h3, h4, h5, h6, h7⟩ := hv.form
  have Hv := Lib.hid hv
  have Hls := Lib.hid hls
  have HS := Lib.hid (DoSt.made w (.int .i64 x.kind) (.int .i64 x.num) (.string ⟨x.str.toArray⟩) (.slice A1 x.parts.length c1) (.slice B1 x.keys.length d1))
  have HP := Lib.hid (fun W => prim_Pure 15 W)
  have hpk : pureB 15 = true := by decide
  rw [hpk] at HP
  have HF := Lib.hid (fun W hv hls hl => prim_fits 15 x l (valV x A1 c1 B1 d1) A c ok W hv hls hlc hcm hl (by decide))
  rw [hfit] at HF
  have HC := Lib.hid hcall
  clear hpk hv hls hfit hcall
  go_enter Tryz.func12, Tryz.ntmps12
  go_wp2_with fail
  refine (HP.out _).mono ?_
  rintro e w1 ⟨rfl, rfl⟩
  go_wp2_with fail
  refine (HF.out _ (Hv.out.below (two_alloc _ _ _)) (Hls.out.below (two_alloc _ _ _)) (Lib.hid (hl.out.below (two_alloc _ _ _)))).mono ?_
  rintro e wf ⟨rfl, hb⟩
  have HF2 := Lib.hid (HS.out.below (bthen hb (Below.refl _ _).drew))
  have hst := HS.out.below hb
  obtain ⟨h0, h1, h2, h3, h4, r0, r1, r2, r3, r4, hf, hw⟩ := hst
  have Hw := Lib.hid hw
  clear hb hw hf r0 r1 r2 r3 r4 HP HF Hv Hls
  go_wp2_with fail
  go_region_with (first | (go_at_call 30; refine (prim_table _).mono ?_; rintro e wt ⟨b, rfl, ht⟩; obtain ⟨fv, hlk, hg⟩ := ht.1.lookup (P := Tryz.prog) (k := 3) (e := 51) (t := 52) Tryz.underlying3 Tryz.underlying52 (by omega) 5 (by omega) (z := 15) (by decide); have hgp := hg.plain rfl rfl rfl rfl; subst hgp; clear hg; have HD := Lib.hid (HF2.out.below ht.2.1); obtain ⟨h0, h1, h2, h3, h4, r0, r1, r2, r3, r4, hf, hw⟩ := HF2.out.below ht.2.1; have Hw2 := Lib.hid hw; clear hw hf ht) | (go_at_call 54; refine (HC.out _ Hw2.out).mono ?_; rintro e w3 ⟨vr, rfl, hvr, hb3⟩; obtain ⟨A2, c2, B2, d2, rfl, _⟩ := hvr.form; have HV := Lib.hid hvr; have HD3 := Lib.hid (HD.out.below hb3); clear h0 h1 h2 h3 h4 r0 r1 r2 r3 r4 hb3 hvr; obtain ⟨h0, h1, h2, h3, h4, r0, r1, r2, r3, r4, hf, hw⟩ := HD3.out; have hf0 := hf 0; have hf1 := hf 1; have hf2 := hf 2; have hf3 := hf 3; have hf4 := hf 4; have Hw3 := Lib.hid hw; clear hw hf))
  all_goals go_wp2
  all_goals refine bodyPost_ret (v := .tuple #[valV X A2 c2 B2 d2, .int .i64 t]) ?_ rfl ⟨_, rfl, ans_sets HV.out (lt_of_cell HD.out.2.2.2.2.2.1) (Nat.lt_succ_self _) Hw2.out.size _ _ _ _ _ _ _ _ _ _, five_sets Hw3.out (Nat.le_succ _) _ _ _ _ _ _ _ _ _ _⟩
  all_goals rw [results_cell_tmp rfl]
  all_goals go_simp
end Go.Proofs.YtacaknkfddlklaaGreatDoor
