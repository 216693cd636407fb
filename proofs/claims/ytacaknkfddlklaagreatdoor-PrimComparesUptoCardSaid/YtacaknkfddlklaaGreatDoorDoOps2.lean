/- prim.Do at an operation, by what the function in its table answers. Printed by gen_doops.py. -/
import Derived.Test.YtacaknkfddlklaaGreatDoorDoB
set_option linter.unusedVariables false
set_option linter.unusedSimpArgs false
namespace Go.Proofs.YtacaknkfddlklaaGreatDoor
open Go.RowKit Go.IntWalk Go.ChangeMaps Go.MapKept

set_option maxRecDepth 20000 in
set_option maxHeartbeats 2000000 in
theorem prim_Do_27 (x : V) (l : List V) (v : Value) (A : Option Addr) (c : Nat) (ok : Nat → Prop) (w : World) (hv : RdV ok w v x) (hls : RdVs ok w (.slice A l.length c) 0 l) (hlc : l.length ≤ c) (hcm : c ≤ 9223372036854775807) (hl : Hid (CodeLaid w)) (hfit : fitsS 27 x l = true) (X : V) (t : Int)
    (hcall : ∀ w1, Below w.heap.size w w1 → Calls Tryz.prog 70 #[v, .slice A l.length c] w1 (AnsPost w1 X t)) :
    Calls Tryz.prog 12 #[.int .i64 27, v, .slice A l.length c] w (AnsPost w X t) := by
  obtain ⟨A1, c1, B1, d1, rfl, h1, h2, h3, h4, h5, h6, h7⟩ := hv.form
  have Hv := Lib.hid hv
  have Hls := Lib.hid hls
  have HS := Lib.hid (DoSt.made w (.int .i64 x.kind) (.int .i64 x.num) (.string ⟨x.str.toArray⟩) (.slice A1 x.parts.length c1) (.slice B1 x.keys.length d1))
  have HP := Lib.hid (fun W => prim_Pure 27 W)
  have hpk : pureB 27 = true := by decide
  rw [hpk] at HP
  have HF := Lib.hid (fun W hv hls hl => prim_fits 27 x l (valV x A1 c1 B1 d1) A c ok W hv hls hlc hcm hl (by decide))
  rw [hfit] at HF
  have HC := Lib.hid hcall
  clear hpk hv hls hfit hcall
  go_enter Tryz.func12, Tryz.ntmps12
  go_wp2_with fail
  refine (HP.out _).mono ?_
  rintro e w1 ⟨rfl, rfl⟩
  go_wp2_with fail
  refine (HF.out _ (Hv.out.below (two_alloc _ _ _)) (Hls.out.below (two_alloc _ _ _)) (Lib.hid (hl.out.below (two_alloc _ _ _)))).mono ?_
  rintro e wf ⟨rfl, hb⟩
  have HF2 := Lib.hid (HS.out.below (bthen hb (Below.refl _ _).drew))
  have hst := HS.out.below hb
  obtain ⟨h0, h1, h2, h3, h4, r0, r1, r2, r3, r4, hf, hw⟩ := hst
  have Hw := Lib.hid hw
  clear hb hw hf r0 r1 r2 r3 r4 HP HF Hv Hls
  go_wp2_with fail
  go_region_with (first | (go_at_call 30; refine (prim_table _).mono ?_; rintro e wt ⟨b, rfl, ht⟩; obtain ⟨fv, hlk, hg⟩ := ht.1.lookup (P := Tryz.prog) (k := 3) (e := 51) (t := 52) Tryz.underlying3 Tryz.underlying52 (by omega) 17 (by omega) (z := 27) (by decide); have hgp := hg.plain rfl rfl rfl rfl; subst hgp; clear hg; have HD := Lib.hid (HF2.out.below ht.2.1); obtain ⟨h0, h1, h2, h3, h4, r0, r1, r2, r3, r4, hf, hw⟩ := HF2.out.below ht.2.1; have Hw2 := Lib.hid hw; clear hw hf ht) | (go_at_call 70; refine (HC.out _ Hw2.out).mono ?_; rintro e w3 ⟨vr, rfl, hvr, hb3⟩; obtain ⟨A2, c2, B2, d2, rfl, _⟩ := hvr.form; have HV := Lib.hid hvr; have HD3 := Lib.hid (HD.out.below hb3); clear h0 h1 h2 h3 h4 r0 r1 r2 r3 r4 hb3 hvr; obtain ⟨h0, h1, h2, h3, h4, r0, r1, r2, r3, r4, hf, hw⟩ := HD3.out; have hf0 := hf 0; have hf1 := hf 1; have hf2 := hf 2; have hf3 := hf 3; have hf4 := hf 4; have Hw3 := Lib.hid hw; clear hw hf))
  all_goals go_wp2
  all_goals refine bodyPost_ret (v := .tuple #[valV X A2 c2 B2 d2, .int .i64 t]) ?_ rfl ⟨_, rfl, ans_sets HV.out (lt_of_cell HD.out.2.2.2.2.2.1) (Nat.lt_succ_self _) Hw2.out.size _ _ _ _ _ _ _ _ _ _, five_sets Hw3.out (Nat.le_succ _) _ _ _ _ _ _ _ _ _ _⟩
  all_goals rw [results_cell_tmp rfl]
  all_goals go_simp
set_option maxRecDepth 20000 in
set_option maxHeartbeats 2000000 in
theorem prim_Do_30 (x : V) (l : List V) (v : Value) (A : Option Addr) (c : Nat) (ok : Nat → Prop) (w : World) (hv : RdV ok w v x) (hls : RdVs ok w (.slice A l.length c) 0 l) (hlc : l.length ≤ c) (hcm : c ≤ 9223372036854775807) (hl : Hid (CodeLaid w)) (hfit : fitsS 30 x l = true) (X : V) (t : Int)
    (hcall : ∀ w1, Below w.heap.size w w1 → Calls Tryz.prog 74 #[v, .slice A l.length c] w1 (AnsPost w1 X t)) :
    Calls Tryz.prog 12 #[.int .i64 30, v, .slice A l.length c] w (AnsPost w X t) := by
  obtain ⟨A1, c1, B1, d1, rfl, h1, h2, h3, h4, h5, h6, h7⟩ := hv.form
  have Hv := Lib.hid hv
  have Hls := Lib.hid hls
  have HS := Lib.hid (DoSt.made w (.int .i64 x.kind) (.int .i64 x.num) (.string ⟨x.str.toArray⟩) (.slice A1 x.parts.length c1) (.slice B1 x.keys.length d1))
  have HP := Lib.hid (fun W => prim_Pure 30 W)
  have hpk : pureB 30 = true := by decide
  rw [hpk] at HP
  have HF := Lib.hid (fun W hv hls hl => prim_fits 30 x l (valV x A1 c1 B1 d1) A c ok W hv hls hlc hcm hl (by decide))
  rw [hfit] at HF
  have HC := Lib.hid hcall
  clear hpk hv hls hfit hcall
  go_enter Tryz.func12, Tryz.ntmps12
  go_wp2_with fail
  refine (HP.out _).mono ?_
  rintro e w1 ⟨rfl, rfl⟩
  go_wp2_with fail
  refine (HF.out _ (Hv.out.below (two_alloc _ _ _)) (Hls.out.below (two_alloc _ _ _)) (Lib.hid (hl.out.below (two_alloc _ _ _)))).mono ?_
  rintro e wf ⟨rfl, hb⟩
  have HF2 := Lib.hid (HS.out.below (bthen hb (Below.refl _ _).drew))
  have hst := HS.out.below hb
  obtain ⟨h0, h1, h2, h3, h4, r0, r1, r2, r3, r4, hf, hw⟩ := hst
  have Hw := Lib.hid hw
  clear hb hw hf r0 r1 r2 r3 r4 HP HF Hv Hls
  go_wp2_with fail
  go_region_with (first | (go_at_call 30; refine (prim_table _).mono ?_; rintro e wt ⟨b, rfl, ht⟩; obtain ⟨fv, hlk, hg⟩ := ht.1.lookup (P := Tryz.prog) (k := 3) (e := 51) (t := 52) Tryz.underlying3 Tryz.underlying52 (by omega) 20 (by omega) (z := 30) (by decide); have hgp := hg.plain rfl rfl rfl rfl; subst hgp; clear hg; have HD := Lib.hid (HF2.out.below ht.2.1); obtain ⟨h0, h1, h2, h3, h4, r0, r1, r2, r3, r4, hf, hw⟩ := HF2.out.below ht.2.1; have Hw2 := Lib.hid hw; clear hw hf ht) | (go_at_call 74; refine (HC.out _ Hw2.out).mono ?_; rintro e w3 ⟨vr, rfl, hvr, hb3⟩; obtain ⟨A2, c2, B2, d2, rfl, _⟩ := hvr.form; have HV := Lib.hid hvr; have HD3 := Lib.hid (HD.out.below hb3); clear h0 h1 h2 h3 h4 r0 r1 r2 r3 r4 hb3 hvr; obtain ⟨h0, h1, h2, h3, h4, r0, r1, r2, r3, r4, hf, hw⟩ := HD3.out; have hf0 := hf 0; have hf1 := hf 1; have hf2 := hf 2; have hf3 := hf 3; have hf4 := hf 4; have Hw3 := Lib.hid hw; clear hw hf))
  all_goals go_wp2
  all_goals refine bodyPost_ret (v := .tuple #[valV X A2 c2 B2 d2, .int .i64 t]) ?_ rfl ⟨_, rfl, ans_sets HV.out (lt_of_cell HD.out.2.2.2.2.2.1) (Nat.lt_succ_self _) Hw2.out.size _ _ _ _ _ _ _ _ _ _, five_sets Hw3.out (Nat.le_succ _) _ _ _ _ _ _ _ _ _ _⟩
  all_goals rw [results_cell_tmp rfl]
  all_goals go_simp
end Go.Proofs.YtacaknkfddlklaaGreatDoor
