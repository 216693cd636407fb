/- prim.Do at an operation, by what the function in its table answers. Printed by gen_doops.py. -/
import Derived.Test.YtacaknkfddlklaaGreatDoorDoB
set_option linter.unusedVariables false
set_option linter.unusedSimpArgs false
namespace Go.Proofs.YtacaknkfddlklaaGreatDoor
open Go.RowKit Go.IntWalk Go.ChangeMaps Go.MapKept

set_option maxRecDepth 20000 in
set_option maxHeartbeats 2000000 in
theorem prim_Do_17 (x : V) (l : List V) (v : Value) (A : Option Addr) (c : Nat) (ok : Nat → Prop) (w : World) (hv : RdV ok w v x) (hls : RdVs ok w (.slice A l.length c) 0 l) (hlc : l.length ≤ c) (hcm : c ≤ 9223372036854775807) (hl : Hid (CodeLaid w)) (hfit : fitsS 17 x l = true) (X : V) (t : Int)
    (hcall : ∀ w1, Below w.heap.size w w1 → Calls Tryz.prog 57 #[v, .slice A l.length c] w1 (AnsPost w1 X t)) :
    Calls Tryz.prog 12 #[.int .i64 17, v, .slice A l.length c] w (AnsPost w X t) := by
  obtain ⟨A1, c1, B1, d1, rfl, h1, h2, h3, h4, h5, h6, h7⟩ := hv.form
  have Hv := Lib.hid hv
  have Hls := Lib.hid hls
  have HS := Lib.hid (DoSt.made w (.int .i64 x.kind) (.int .i64 x.num) (.string ⟨x.str.toArray⟩) (.slice A1 x.parts.length c1) (.slice B1 x.keys.length d1))
  have HP := Lib.hid (fun W => prim_Pure 17 W)
  have hpk : pureB 17 = true := by decide
  rw [hpk] at HP
  have HF := Lib.hid (fun W hv hls hl => prim_fits 17 x l (valV x A1 c1 B1 d1) A c ok W hv hls hlc hcm hl (by decide))
  rw [hfit] at HF
  have HC := Lib.hid hcall
  clear hpk hv hls hfit hcall
  go_enter Tryz.func12, Tryz.ntmps12
  go_wp2_with fail
  refine (HP.out _).mono ?_
  rintro e w1 ⟨rfl, rfl⟩
  go_wp2_with fail
  refine (HF.out _ (Hv.out.below (two_alloc _ _ _)) (Hls.out.below (two_alloc _ _ _)) (Lib.hid (hl.out.below (two_alloc _ _ _)))).mono ?_
  rintro e wf ⟨rfl, hb⟩
  have HF2 := Lib.hid (HS.out.below (bthen hb (Below.refl _ _).drew))
  have hst := HS.out.below hb
  obtain ⟨h0, h1, h2, h3, h4, r0, r1, r2, r3, r4, hf, hw⟩ := hst
  have Hw := Lib.hid hw
  clear hb hw hf r0 r1 r2 r3 r4 HP HF Hv Hls
  go_wp2_with fail
  go_region_with (first | (go_at_call 30; refine (prim_table _).mono ?_; rintro e wt ⟨b, rfl, ht⟩; obtain ⟨fv, hlk, hg⟩ := ht.1.lookup (P := Tryz.prog) (k := 3) (e := 51) (t := 52) Tryz.underlying3 Tryz.underlying52 (by omega) 7 (by omega) (z := 17) (by decide); have hgp := hg.plain rfl rfl rfl rfl; subst hgp; clear hg; have HD := Lib.hid (HF2.out.below ht.2.1); obtain ⟨h0, h1, h2, h3, h4, r0, r1, r2, r3, r4, hf, hw⟩ := HF2.out.below ht.2.1; have Hw2 := Lib.hid hw; clear hw hf ht) | (go_at_call 57; refine (HC.out _ Hw2.out).mono ?_; rintro e w3 ⟨vr, rfl, hvr, hb3⟩; obtain ⟨A2, c2, B2, d2, rfl, _⟩ := hvr.form; have HV := Lib.hid hvr; have HD3 := Lib.hid (HD.out.below hb3); clear h0 h1 h2 h3 h4 r0 r1 r2 r3 r4 hb3 hvr; obtain ⟨h0, h1, h2, h3, h4, r0, r1, r2, r3, r4, hf, hw⟩ := HD3.out; have hf0 := hf 0; have hf1 := hf 1; have hf2 := hf 2; have hf3 := hf 3; have hf4 := hf 4; have Hw3 := Lib.hid hw; clear hw hf))
  all_goals go_wp2
  all_goals refine bodyPost_ret (v := .tuple #[valV X A2 c2 B2 d2, .int .i64 t]) ?_ rfl ⟨_, rfl, ans_sets HV.out (lt_of_cell HD.out.2.2.2.2.2.1) (Nat.lt_succ_self _) Hw2.out.size _ _ _ _ _ _ _ _ _ _, five_sets Hw3.out (Nat.le_succ _) _ _ _ _ _ _ _ _ _ _⟩
  all_goals rw [results_cell_tmp rfl]
  all_goals go_simp
set_option maxRecDepth 20000 in
set_option maxHeartbeats 2000000 in
theorem prim_Do_18 (x : V) (l : List V) (v : Value) (A : Option Addr) (c : Nat) (ok : Nat → Prop) (w : World) (hv : RdV ok w v x) (hls : RdVs ok w (.slice A l.length c) 0 l) (hlc : l.length ≤ c) (hcm : c ≤ 9223372036854775807) (hl : Hid (CodeLaid w)) (hfit : fitsS 18 x l = true) (X : V) (t : Int)
    (hcall : ∀ w1, Below w.heap.size w w1 → Calls Tryz.prog 59 #[v, .slice A l.length c] w1 (AnsPost w1 X t)) :
    Calls Tryz.prog 12 #[.int .i64 18, v, .slice A l.length c] w (AnsPost w X t) := by
  obtain ⟨A1, c1, B1, d1, rfl, h1, h2, h3, h4, h5, h6, h7⟩ := hv.form
  have Hv := Lib.hid hv
  have Hls := Lib.hid hls
  have HS := Lib.hid (DoSt.made w (.int .i64 x.kind) (.int .i64 x.num) (.string ⟨x.str.toArray⟩) (.slice A1 x.parts.length c1) (.slice B1 x.keys.length d1))
  have HP := Lib.hid (fun W => prim_Pure 18 W)
  have hpk : pureB 18 = true := by decide
  rw [hpk] at HP
  have HF := Lib.hid (fun W hv hls hl => prim_fits 18 x l (valV x A1 c1 B1 d1) A c ok W hv hls hlc hcm hl (by decide))
  rw [hfit] at HF
  have HC := Lib.hid hcall
  clear hpk hv hls hfit hcall
  go_enter Tryz.func12, Tryz.ntmps12
  go_wp2_with fail
  refine (HP.out _).mono ?_
  rintro e w1 ⟨rfl, rfl⟩
  go_wp2_with fail
  refine (HF.out _ (Hv.out.below (two_alloc _ _ _)) (Hls.out.below (two_alloc _ _ _)) (Lib.hid (hl.out.below (two_alloc _ _ _)))).mono ?_
  rintro e wf ⟨rfl, hb⟩
  have HF2 := Lib.hid (HS.out.below (bthen hb (Below.refl _ _).drew))
  have hst := HS.out.below hb
  obtain ⟨h0, h1, h2, h3, h4, r0, r1, r2, r3, r4, hf, hw⟩ := hst
  have Hw := Lib.hid hw
  clear hb hw hf r0 r1 r2 r3 r4 HP HF Hv Hls
  go_wp2_with fail
  go_region_with (first | (go_at_call 30; refine (prim_table _).mono ?_; rintro e wt ⟨b, rfl, ht⟩; obtain ⟨fv, hlk, hg⟩ := ht.1.lookup (P := Tryz.prog) (k := 3) (e := 51) (t := 52) Tryz.underlying3 Tryz.underlying52 (by omega) 8 (by omega) (z := 18) (by decide); have hgp := hg.plain rfl rfl rfl rfl; subst hgp; clear hg; have HD := Lib.hid (HF2.out.below ht.2.1); obtain ⟨h0, h1, h2, h3, h4, r0, r1, r2, r3, r4, hf, hw⟩ := HF2.out.below ht.2.1; have Hw2 := Lib.hid hw; clear hw hf ht) | (go_at_call 59; refine (HC.out _ Hw2.out).mono ?_; rintro e w3 ⟨vr, rfl, hvr, hb3⟩; obtain ⟨A2, c2, B2, d2, rfl, _⟩ := hvr.form; have HV := Lib.hid hvr; have HD3 := Lib.hid (HD.out.below hb3); clear h0 h1 h2 h3 h4 r0 r1 r2 r3 r4 hb3 hvr; obtain ⟨h0, h1, h2, h3, h4, r0, r1, r2, r3, r4, hf, hw⟩ := HD3.out; have hf0 := hf 0; have hf1 := hf 1; have hf2 := hf 2; have hf3 := hf 3; have hf4 := hf 4; have Hw3 := Lib.hid hw; clear hw hf))
  all_goals go_wp2
  all_goals refine bodyPost_ret (v := .tuple #[valV X A2 c2 B2 d2, .int .i64 t]) ?_ rfl ⟨_, rfl, ans_sets HV.out (lt_of_cell HD.out.2.2.2.2.2.1) (Nat.lt_succ_self _) Hw2.out.size _ _ _ _ _ _ _ _ _ _, five_sets Hw3.out (Nat.le_succ _) _ _ _ _ _ _ _ _ _ _⟩
  all_goals rw [results_cell_tmp rfl]
  all_goals go_simp
set_option maxRecDepth 20000 in
set_option maxHeartbeats 2000000 in
theorem prim_Do_19 (x : V) (l : List V) (v : Value) (A : Option Addr) (c : Nat) (ok : Nat → Prop) (w : World) (hv : RdV ok w v x) (hls : RdVs ok w (.slice A l.length c) 0 l) (hlc : l.length ≤ c) (hcm : c ≤ 9223372036854775807) (hl : Hid (CodeLaid w)) (hfit : fitsS 19 x l = true) (X : V) (t : Int)
    (hcall : ∀ w1 p, Below w.heap.size w w1 → w1.cell? ⟨p, 0, none⟩ = some (.func (.func 61) #[] #[]) → Calls Tryz.prog 106 #[v, .slice A l.length c, .pointer (some ⟨p, 0, none⟩)] w1 (AnsPost w1 X t)) :
    Calls Tryz.prog 12 #[.int .i64 19, v, .slice A l.length c] w (AnsPost w X t) := by
  obtain ⟨A1, c1, B1, d1, rfl, h1, h2, h3, h4, h5, h6, h7⟩ := hv.form
  have Hv := Lib.hid hv
  have Hls := Lib.hid hls
  have HS := Lib.hid (DoSt.made w (.int .i64 x.kind) (.int .i64 x.num) (.string ⟨x.str.toArray⟩) (.slice A1 x.parts.length c1) (.slice B1 x.keys.length d1))
  have HP := Lib.hid (fun W => prim_Pure 19 W)
  have hpk : pureB 19 = true := by decide
  rw [hpk] at HP
  have HF := Lib.hid (fun W hv hls hl => prim_fits 19 x l (valV x A1 c1 B1 d1) A c ok W hv hls hlc hcm hl (by decide))
  rw [hfit] at HF
  have HC := Lib.hid hcall
  clear hpk hv hls hfit hcall
  go_enter Tryz.func12, Tryz.ntmps12
  go_wp2_with fail
  refine (HP.out _).mono ?_
  rintro e w1 ⟨rfl, rfl⟩
  go_wp2_with fail
  refine (HF.out _ (Hv.out.below (two_alloc _ _ _)) (Hls.out.below (two_alloc _ _ _)) (Lib.hid (hl.out.below (two_alloc _ _ _)))).mono ?_
  rintro e wf ⟨rfl, hb⟩
  have HF2 := Lib.hid (HS.out.below (bthen hb (Below.refl _ _).drew))
  have hst := HS.out.below hb
  obtain ⟨h0, h1, h2, h3, h4, r0, r1, r2, r3, r4, hf, hw⟩ := hst
  have Hw := Lib.hid hw
  clear hb hw hf r0 r1 r2 r3 r4 HP HF Hv Hls
  go_wp2_with fail
  go_region_with (first | (go_at_call 30; refine (prim_table _).mono ?_; rintro e wt ⟨b, rfl, ht⟩; obtain ⟨fv, hlk, hg⟩ := ht.1.lookup (P := Tryz.prog) (k := 3) (e := 51) (t := 52) Tryz.underlying3 Tryz.underlying52 (by omega) 9 (by omega) (z := 19) (by decide); obtain ⟨p, rfl, hcl⟩ := hg.ord rfl rfl rfl rfl; have Hcl := Lib.hid hcl; clear hcl hg; have HD := Lib.hid (HF2.out.below ht.2.1); obtain ⟨h0, h1, h2, h3, h4, r0, r1, r2, r3, r4, hf, hw⟩ := HF2.out.below ht.2.1; have Hw2 := Lib.hid hw; clear hw hf ht) | (go_at_call 106; refine (HC.out _ _ Hw2.out Hcl.out).mono ?_; rintro e w3 ⟨vr, rfl, hvr, hb3⟩; obtain ⟨A2, c2, B2, d2, rfl, _⟩ := hvr.form; have HV := Lib.hid hvr; have HD3 := Lib.hid (HD.out.below hb3); clear h0 h1 h2 h3 h4 r0 r1 r2 r3 r4 hb3 hvr; obtain ⟨h0, h1, h2, h3, h4, r0, r1, r2, r3, r4, hf, hw⟩ := HD3.out; have hf0 := hf 0; have hf1 := hf 1; have hf2 := hf 2; have hf3 := hf 3; have hf4 := hf 4; have Hw3 := Lib.hid hw; clear hw hf))
  all_goals go_wp2
  all_goals refine bodyPost_ret (v := .tuple #[valV X A2 c2 B2 d2, .int .i64 t]) ?_ rfl ⟨_, rfl, ans_sets HV.out (lt_of_cell HD.out.2.2.2.2.2.1) (Nat.lt_succ_self _) Hw2.out.size _ _ _ _ _ _ _ _ _ _, five_sets Hw3.out (Nat.le_succ _) _ _ _ _ _ _ _ _ _ _⟩
  all_goals rw [results_cell_tmp rfl]
  all_goals go_simp
set_option maxRecDepth 20000 in
set_option maxHeartbeats 2000000 in
theorem prim_Do_20 (x : V) (l : List V) (v : Value) (A : Option Addr) (c : Nat) (ok : Nat → Prop) (w : World) (hv : RdV ok w v x) (hls : RdVs ok w (.slice A l.length c) 0 l) (hlc : l.length ≤ c) (hcm : c ≤ 9223372036854775807) (hl : Hid (CodeLaid w)) (hfit : fitsS 20 x l = true) (X : V) (t : Int)
    (hcall : ∀ w1 p, Below w.heap.size w w1 → w1.cell? ⟨p, 0, none⟩ = some (.func (.func 62) #[] #[]) → Calls Tryz.prog 106 #[v, .slice A l.length c, .pointer (some ⟨p, 0, none⟩)] w1 (AnsPost w1 X t)) :
    Calls Tryz.prog 12 #[.int .i64 20, v, .slice A l.length c] w (AnsPost w X t) := by
  obtain ⟨A1, c1, B1, d1, rfl, h1, h2, h3, h4, h5, h6, h7⟩ := hv.form
  have Hv := Lib.hid hv
  have Hls := Lib.hid hls
  have HS := Lib.hid (DoSt.made w (.int .i64 x.kind) (.int .i64 x.num) (.string ⟨x.str.toArray⟩) (.slice A1 x.parts.length c1) (.slice B1 x.keys.length d1))
  have HP := Lib.hid (fun W => prim_Pure 20 W)
  have hpk : pureB 20 = true := by decide
  rw [hpk] at HP
  have HF := Lib.hid (fun W hv hls hl => prim_fits 20 x l (valV x A1 c1 B1 d1) A c ok W hv hls hlc hcm hl (by decide))
  rw [hfit] at HF
  have HC := Lib.hid hcall
  clear hpk hv hls hfit hcall
  go_enter Tryz.func12, Tryz.ntmps12
  go_wp2_with fail
  refine (HP.out _).mono ?_
  rintro e w1 ⟨rfl, rfl⟩
  go_wp2_with fail
  refine (HF.out _ (Hv.out.below (two_alloc _ _ _)) (Hls.out.below (two_alloc _ _ _)) (Lib.hid (hl.out.below (two_alloc _ _ _)))).mono ?_
  rintro e wf ⟨rfl, hb⟩
  have HF2 := Lib.hid (HS.out.below (bthen hb (Below.refl _ _).drew))
  have hst := HS.out.below hb
  obtain ⟨h0, h1, h2, h3, h4, r0, r1, r2, r3, r4, hf, hw⟩ := hst
  have Hw := Lib.hid hw
  clear hb hw hf r0 r1 r2 r3 r4 HP HF Hv Hls
  go_wp2_with fail
  go_region_with (first | (go_at_call 30; refine (prim_table _).mono ?_; rintro e wt ⟨b, rfl, ht⟩; obtain ⟨fv, hlk, hg⟩ := ht.1.lookup (P := Tryz.prog) (k := 3) (e := 51) (t := 52) Tryz.underlying3 Tryz.underlying52 (by omega) 10 (by omega) (z := 20) (by decide); obtain ⟨p, rfl, hcl⟩ := hg.ord rfl rfl rfl rfl; have Hcl := Lib.hid hcl; clear hcl hg; have HD := Lib.hid (HF2.out.below ht.2.1); obtain ⟨h0, h1, h2, h3, h4, r0, r1, r2, r3, r4, hf, hw⟩ := HF2.out.below ht.2.1; have Hw2 := Lib.hid hw; clear hw hf ht) | (go_at_call 106; refine (HC.out _ _ Hw2.out Hcl.out).mono ?_; rintro e w3 ⟨vr, rfl, hvr, hb3⟩; obtain ⟨A2, c2, B2, d2, rfl, _⟩ := hvr.form; have HV := Lib.hid hvr; have HD3 := Lib.hid (HD.out.below hb3); clear h0 h1 h2 h3 h4 r0 r1 r2 r3 r4 hb3 hvr; obtain ⟨h0, h1, h2, h3, h4, r0, r1, r2, r3, r4, hf, hw⟩ := HD3.out; have hf0 := hf 0; have hf1 := hf 1; have hf2 := hf 2; have hf3 := hf 3; have hf4 := hf 4; have Hw3 := Lib.hid hw; clear hw hf))
  all_goals go_wp2
  all_goals refine bodyPost_ret (v := .tuple #[valV X A2 c2 B2 d2, .int .i64 t]) ?_ rfl ⟨_, rfl, ans_sets HV.out (lt_of_cell HD.out.2.2.2.2.2.1) (Nat.lt_succ_self _) Hw2.out.size _ _ _ _ _ _ _ _ _ _, five_sets Hw3.out (Nat.le_succ _) _ _ _ _ _ _ _ _ _ _⟩
  all_goals rw [results_cell_tmp rfl]
  all_goals go_simp
set_option maxRecDepth 20000 in
set_option maxHeartbeats 2000000 in
theorem prim_Do_21 (x : V) (l : List V) (v : Value) (A : Option Addr) (c : Nat) (ok : Nat → Prop) (w : World) (hv : RdV ok w v x) (hls : RdVs ok w (.slice A l.length c) 0 l) (hlc : l.length ≤ c) (hcm : c ≤ 9223372036854775807) (hl : Hid (CodeLaid w)) (hfit : fitsS 21 x l = true) (X : V) (t : Int)
    (hcall : ∀ w1 p, Below w.heap.size w w1 → w1.cell? ⟨p, 0, none⟩ = some (.func (.func 63) #[] #[]) → Calls Tryz.prog 106 #[v, .slice A l.length c, .pointer (some ⟨p, 0, none⟩)] w1 (AnsPost w1 X t)) :
    Calls Tryz.prog 12 #[.int .i64 21, v, .slice A l.length c] w (AnsPost w X t) := by
  obtain ⟨A1, c1, B1, d1, rfl, h1, h2, h3, h4, h5, h6, h7⟩ := hv.form
  have Hv := Lib.hid hv
  have Hls := Lib.hid hls
  have HS := Lib.hid (DoSt.made w (.int .i64 x.kind) (.int .i64 x.num) (.string ⟨x.str.toArray⟩) (.slice A1 x.parts.length c1) (.slice B1 x.keys.length d1))
  have HP := Lib.hid (fun W => prim_Pure 21 W)
  have hpk : pureB 21 = true := by decide
  rw [hpk] at HP
  have HF := Lib.hid (fun W hv hls hl => prim_fits 21 x l (valV x A1 c1 B1 d1) A c ok W hv hls hlc hcm hl (by decide))
  rw [hfit] at HF
  have HC := Lib.hid hcall
  clear hpk hv hls hfit hcall
  go_enter Tryz.func12, Tryz.ntmps12
  go_wp2_with fail
  refine (HP.out _).mono ?_
  rintro e w1 ⟨rfl, rfl⟩
  go_wp2_with fail
  refine (HF.out _ (Hv.out.below (two_alloc _ _ _)) (Hls.out.below (two_alloc _ _ _)) (Lib.hid (hl.out.below (two_alloc _ _ _)))).mono ?_
  rintro e wf ⟨rfl, hb⟩
  have HF2 := Lib.hid (HS.out.below (bthen hb (Below.refl _ _).drew))
  have hst := HS.out.below hb
  obtain ⟨h0, h1, h2, h3, h4, r0, r1, r2, r3, r4, hf, hw⟩ := hst
  have Hw := Lib.hid hw
  clear hb hw hf r0 r1 r2 r3 r4 HP HF Hv Hls
  go_wp2_with fail
  go_region_with (first | (go_at_call 30; refine (prim_table _).mono ?_; rintro e wt ⟨b, rfl, ht⟩; obtain ⟨fv, hlk, hg⟩ := ht.1.lookup (P := Tryz.prog) (k := 3) (e := 51) (t := 52) Tryz.underlying3 Tryz.underlying52 (by omega) 11 (by omega) (z := 21) (by decide); obtain ⟨p, rfl, hcl⟩ := hg.ord rfl rfl rfl rfl; have Hcl := Lib.hid hcl; clear hcl hg; have HD := Lib.hid (HF2.out.below ht.2.1); obtain ⟨h0, h1, h2, h3, h4, r0, r1, r2, r3, r4, hf, hw⟩ := HF2.out.below ht.2.1; have Hw2 := Lib.hid hw; clear hw hf ht) | (go_at_call 106; refine (HC.out _ _ Hw2.out Hcl.out).mono ?_; rintro e w3 ⟨vr, rfl, hvr, hb3⟩; obtain ⟨A2, c2, B2, d2, rfl, _⟩ := hvr.form; have HV := Lib.hid hvr; have HD3 := Lib.hid (HD.out.below hb3); clear h0 h1 h2 h3 h4 r0 r1 r2 r3 r4 hb3 hvr; obtain ⟨h0, h1, h2, h3, h4, r0, r1, r2, r3, r4, hf, hw⟩ := HD3.out; have hf0 := hf 0; have hf1 := hf 1; have hf2 := hf 2; have hf3 := hf 3; have hf4 := hf 4; have Hw3 := Lib.hid hw; clear hw hf))
  all_goals go_wp2
  all_goals refine bodyPost_ret (v := .tuple #[valV X A2 c2 B2 d2, .int .i64 t]) ?_ rfl ⟨_, rfl, ans_sets HV.out (lt_of_cell HD.out.2.2.2.2.2.1) (Nat.lt_succ_self _) Hw2.out.size _ _ _ _ _ _ _ _ _ _, five_sets Hw3.out (Nat.le_succ _) _ _ _ _ _ _ _ _ _ _⟩
  all_goals rw [results_cell_tmp rfl]
  all_goals go_simp
set_option maxRecDepth 20000 in
set_option maxHeartbeats 2000000 in
theorem prim_Do_22 (x : V) (l : List V) (v : Value) (A : Option Addr) (c : Nat) (ok : Nat → Prop) (w : World) (hv : RdV ok w v x) (hls : RdVs ok w (.slice A l.length c) 0 l) (hlc : l.length ≤ c) (hcm : c ≤ 9223372036854775807) (hl : Hid (CodeLaid w)) (hfit : fitsS 22 x l = true) (X : V) (t : Int)
    (hcall : ∀ w1 p, Below w.heap.size w w1 → w1.cell? ⟨p, 0, none⟩ = some (.func (.func 64) #[] #[]) → Calls Tryz.prog 106 #[v, .slice A l.length c, .pointer (some ⟨p, 0, none⟩)] w1 (AnsPost w1 X t)) :
    Calls Tryz.prog 12 #[.int .i64 22, v, .slice A l.length c] w (AnsPost w X t) := by
  obtain ⟨A1, c1, B1, d1, rfl, h1, h2, h3, h4, h5, h6, h7⟩ := hv.form
  have Hv := Lib.hid hv
  have Hls := Lib.hid hls
  have HS := Lib.hid (DoSt.made w (.int .i64 x.kind) (.int .i64 x.num) (.string ⟨x.str.toArray⟩) (.slice A1 x.parts.length c1) (.slice B1 x.keys.length d1))
  have HP := Lib.hid (fun W => prim_Pure 22 W)
  have hpk : pureB 22 = true := by decide
  rw [hpk] at HP
  have HF := Lib.hid (fun W hv hls hl => prim_fits 22 x l (valV x A1 c1 B1 d1) A c ok W hv hls hlc hcm hl (by decide))
  rw [hfit] at HF
  have HC := Lib.hid hcall
  clear hpk hv hls hfit hcall
  go_enter Tryz.func12, Tryz.ntmps12
  go_wp2_with fail
  refine (HP.out _).mono ?_
  rintro e w1 ⟨rfl, rfl⟩
  go_wp2_with fail
  refine (HF.out _ (Hv.out.below (two_alloc _ _ _)) (Hls.out.below (two_alloc _ _ _)) (Lib.hid (hl.out.below (two_alloc _ _ _)))).mono ?_
  rintro e wf ⟨rfl, hb⟩
  have HF2 := Lib.hid (HS.out.below (bthen hb (Below.refl _ _).drew))
  have hst := HS.out.below hb
  obtain ⟨h0, h1, h2, h3, h4, r0, r1, r2, r3, r4, hf, hw⟩ := hst
  have Hw := Lib.hid hw
  clear hb hw hf r0 r1 r2 r3 r4 HP HF Hv Hls
  go_wp2_with fail
  go_region_with (first | (go_at_call 30; refine (prim_table _).mono ?_; rintro e wt ⟨b, rfl, ht⟩; obtain ⟨fv, hlk, hg⟩ := ht.1.lookup (P := Tryz.prog) (k := 3) (e := 51) (t := 52) Tryz.underlying3 Tryz.underlying52 (by omega) 12 (by omega) (z := 22) (by decide); obtain ⟨p, rfl, hcl⟩ := hg.ord rfl rfl rfl rfl; have Hcl := Lib.hid hcl; clear hcl hg; have HD := Lib.hid (HF2.out.below ht.2.1); obtain ⟨h0, h1, h2, h3, h4, r0, r1, r2, r3, r4, hf, hw⟩ := HF2.out.below ht.2.1; have Hw2 := Lib.hid hw; clear hw hf ht) | (go_at_call 106; refine (HC.out _ _ Hw2.out Hcl.out).mono ?_; rintro e w3 ⟨vr, rfl, hvr, hb3⟩; obtain ⟨A2, c2, B2, d2, rfl, _⟩ := hvr.form; have HV := Lib.hid hvr; have HD3 := Lib.hid (HD.out.below hb3); clear h0 h1 h2 h3 h4 r0 r1 r2 r3 r4 hb3 hvr; obtain ⟨h0, h1, h2, h3, h4, r0, r1, r2, r3, r4, hf, hw⟩ := HD3.out; have hf0 := hf 0; have hf1 := hf 1; have hf2 := hf 2; have hf3 := hf 3; have hf4 := hf 4; have Hw3 := Lib.hid hw; clear hw hf))
  all_goals go_wp2
  all_goals refine bodyPost_ret (v := .tuple #[valV X A2 c2 B2 d2, .int .i64 t]) ?_ rfl ⟨_, rfl, ans_sets HV.out (lt_of_cell HD.out.2.2.2.2.2.1) (Nat.lt_succ_self _) Hw2.out.size _ _ _ _ _ _ _ _ _ _, five_sets Hw3.out (Nat.le_succ _) _ _ _ _ _ _ _ _ _ _⟩
  all_goals rw [results_cell_tmp rfl]
  all_goals go_simp
end Go.Proofs.YtacaknkfddlklaaGreatDoor
