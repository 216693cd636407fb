/- Contracts of print.each at the three makes of kinds: expression, statement, is. Printed by gen_each.py. Contract of print.shaped, kind by kind. Printed by gen_shaped.py. Contract of print.shaped at While, If, Fn. Contract of print.shaped at Fn. -/
import Derived.Test.YthlfeiiolafonaaDoorPrintLeaf
import Derived.Deep.DeepCutAuto
import Derived.Deep.RegionLaw
import Derived.Deep.RegionWith
import Derived.BigQuiet
set_option linter.unusedVariables false
set_option linter.unusedSimpArgs false
namespace Go.Proofs.YthlfeiiolafonaaDoor
open Go.RowKit Go.IntWalk

theorem RdNs.reslice {ok : Nat → Prop} {w : World} {K : Option Addr} {m e m' e' : Nat} : ∀ {l : List N} {i : Nat}, RdNs ok w (.slice K m e) i l → RdNs ok w (.slice K m' e') i l
  | [], i, h => by unfold RdNs; trivial
  | x :: l, i, h => by
    unfold RdNs at h ⊢
    obtain ⟨⟨g, o, cs, ⟨off, n, cap, hv, ho, hg⟩, h2⟩, h3⟩ := h
    injection hv with hv
    exact ⟨⟨g, o, cs, ⟨off, m', e', by rw [hv], ho, hg⟩, h2⟩, RdNs.reslice h3⟩
theorem RdNs.take {ok : Nat → Prop} {w : World} {lv : Value} : ∀ {l : List N} {i : Nat} (j : Nat), RdNs ok w lv i l → RdNs ok w lv i (l.take j)
  | [], i, j, h => by rw [List.take_nil]; exact h
  | x :: l, i, 0, h => by rw [List.take_zero]; unfold RdNs; trivial
  | x :: l, i, j + 1, h => by
    rw [List.take_succ_cons]
    unfold RdNs at h ⊢
    exact ⟨h.1, RdNs.take j h.2⟩
theorem any_take_step {l : List N} {k : Nat} (h : k < l.length) (p : N → Bool) : (l.take (k + 1)).any p = ((l.take k).any p || p l[k]) := by
  rw [← List.take_append_getElem h, List.any_append]
  simp
theorem any_at {l : List N} {k : Nat} (h : k < l.length) {p : N → Bool} (hp : p l[k] = true) : l.any p = true := List.any_eq_true.2 ⟨_, List.getElem_mem h, hp⟩
theorem print_is (m : Int) (w : World) : Calls Tryd.prog 53 #[.int .i64 m] w fun e w' => e = .returned (.func (.func 70) #[] #[.pointer (some ⟨w.heap.size, 0, none⟩)]) ∧ w' = w.alloc (.cells #[.int .i64 m] 3) := by
  go_enter Tryd.func53, Tryd.ntmps53
  go_wp2
  go_ret
  exact ⟨rfl, rfl⟩

set_option maxHeartbeats 1000000 in
theorem each1_expr (n : N) (v : Value) (ok : Nat → Prop) (q : Nat) (w : World) (hv : RdN ok w v n) (hq : w.cell? ⟨q, 0, none⟩ = some (.func (.func 19) #[] #[])) : Calls Tryd.prog 69 #[v, .pointer (some ⟨q, 0, none⟩)] w fun e w' => e = .returned (.bool (!(exprK n.kind))) ∧ Below w.heap.size w w' := by
  obtain ⟨A, c, B, d, K, e, rfl, hn⟩ := hv.form
  have hq1 := fun X => bcell (one_al w X) hq
  clear hq hv hn
  go_enter Tryd.func69, Tryd.ntmps69
  go_wp2_with fail
  refine (print_expression n.kind _).mono ?_
  rintro e1 w1 ⟨rfl, rfl⟩
  go_wp2_with fail
  go_ret
  exact ⟨rfl, one_al _ _⟩
set_option maxRecDepth 20000 in
set_option maxHeartbeats 2000000 in
theorem index_expr (l : List N) (K : Option Addr) (e : Nat) (ok : Nat → Prop) (q : Nat) (w : World) (hl : RdNs ok w (.slice K l.length e) 0 l) (hlen : l.length ≤ 16777216) (hq : w.cell? ⟨q, 0, none⟩ = some (.func (.func 19) #[] #[])) : Calls Tryd.prog 81 #[.slice K l.length e, (.func (.func 69) #[] #[.pointer (some ⟨q, 0, none⟩)])] w fun e w' => (∃ r : Int, e = .returned (.int .i64 r) ∧ -1 ≤ r ∧ r ≤ 16777216 ∧ decide (0 ≤ r) = l.any fun n => !(exprK n.kind)) ∧ Below w.heap.size w w' := by
  have HL := Lib.hid hl
  have HQ := Lib.hid hq
  clear hl hq
  go_enter Tryd.func81, Tryd.ntmps81
  go_wp2_with fail
  go_loopw [8] (fun i wr => ∃ k, k ≤ l.length ∧ i = .int .i64 (k : Int) ∧ (l.take k).any (fun n => !(exprK n.kind)) = false ∧ Below w.heap.size w wr) (fun i _ => l.length - (intOf i).toNat)
  case atStart => exact ⟨0, Nat.zero_le _, rfl, rfl, Below.refl _ _⟩
  case round =>
    obtain ⟨k, hk, rfl, hno, hB⟩ := hrel
    have HB := Lib.hid hB
    have HNo := Lib.hid hno
    clear hB hno
    by_cases hlt : k < l.length
    · have hlA : (k : Int) < (l.length : Int) := by omega
      have h00 : (0 : Int) ≤ (k : Int) := by omega
      have hst := any_take_step hlt (fun n => !(exprK n.kind))
      have hat := fun h => any_at (p := fun n => !(exprK n.kind)) hlt h
      obtain ⟨g, off, A', c', B', d', K', e', rfl, _, hk', k0, k1, k2, k3, k4, k5, k6, k7, k8, k9⟩ := (HL.out.below HB.out).elem k hlt
      generalize l[k] = Y at *
      have HK := Lib.hid hk'
      have HST := Lib.hid hst
      have HAT := Lib.hid hat
      clear hk' hst hat
      go_wp2_with fail
      refine (each1_expr Y _ ok q _ HK.out.rd (bcell HB.out HQ.out)).mono ?_
      rintro e1 w1 ⟨rfl, hb1⟩
      have HB1 := Lib.hid (bthen HB.out hb1)
      clear hb1
      cases hp1 : (exprK Y.kind) with
      | false =>
        have HN1 := Lib.hid hp1
        clear hp1
        go_wp2_with fail
        go_ret
        exact ⟨⟨k, rfl, by omega, by omega, by rw [HAT.out (by rw [HN1.out]; rfl)]; simp⟩, HB1.out⟩
      | true =>
        have HN1 := Lib.hid hp1
        clear hp1
        go_wp2_with fail
        exact ⟨⟨k + 1, by omega, by go_num, by rw [HST.out, HNo.out, HN1.out]; rfl, HB1.out⟩, by simp [intOf]; omega⟩
    · have hlA : ¬ (k : Int) < (l.length : Int) := by omega
      have hkk : l.take k = l := List.take_of_length_le (by omega)
      rw [hkk] at HNo
      clear hkk
      go_wp2_with fail
      go_ret
      exact ⟨⟨-1, rfl, by omega, by omega, by rw [HNo.out]; rfl⟩, HB.out⟩
theorem contains_expr (l : List N) (K : Option Addr) (e : Nat) (ok : Nat → Prop) (q : Nat) (w : World) (hl : RdNs ok w (.slice K l.length e) 0 l) (hlen : l.length ≤ 16777216) (hq : w.cell? ⟨q, 0, none⟩ = some (.func (.func 19) #[] #[])) : Calls Tryd.prog 68 #[.slice K l.length e, (.func (.func 69) #[] #[.pointer (some ⟨q, 0, none⟩)])] w fun e w' => e = .returned (.bool (l.any fun n => !(exprK n.kind))) ∧ Below w.heap.size w w' := by
  have HI := Lib.hid (index_expr l K e ok q w hl hlen hq)
  clear hl hq
  go_enter Tryd.func68, Tryd.ntmps68
  go_wp2_with fail
  refine HI.out.mono ?_
  rintro e1 w1 ⟨⟨r, rfl, hr1, hr2, hr⟩, hb⟩
  have HB := Lib.hid hb
  have HR := Lib.hid hr
  clear hb hr
  go_wp2_with fail
  go_ret
  exact ⟨ret_bool HR.out, HB.out⟩
set_option maxRecDepth 20000 in
set_option maxHeartbeats 2000000 in
theorem each_expr (l : List N) (K : Option Addr) (e : Nat) (lo hi : Nat) (ok : Nat → Prop) (w : World) (hl : RdNs ok w (.slice K l.length e) 0 l) (hlen : l.length ≤ 16777216) (hhi : hi ≤ 1099511627776) :
    Calls Tryd.prog 52 #[.slice K l.length e, .int .i64 (lo : Int), .int .i64 (hi : Int), (.func (.func 19) #[] #[])] w fun e w' => e = .returned (.bool (decide (lo ≤ l.length) && (decide (l.length ≤ hi) && (l.map N.kind).all fun k => (exprK k)))) ∧ Below w.heap.size w w' := by
  have hall : ((l.map N.kind).all fun k => (exprK k)) = !(l.any fun n => !(exprK n.kind)) := by
    rw [List.all_map, List.not_any_eq_all_not]
    congr 1
    funext n
    simp
  rw [hall]
  have HC := Lib.hid (contains_expr l K e ok w.heap.size (w.alloc (.cells #[(.func (.func 19) #[] #[])] 38)) (hl.below (one_al _ _)) hlen (World.cell?_alloc_at _ _ _ _ rfl))
  clear hl hall
  go_enter Tryd.func52, Tryd.ntmps52
  by_cases h1 : lo ≤ l.length
  · have h1A : (lo : Int) ≤ (l.length : Int) := by omega
    by_cases h2 : l.length ≤ hi
    · have h2A : (l.length : Int) ≤ (hi : Int) := by omega
      go_wp2_with fail
      refine HC.out.mono ?_
      rintro e1 w1 ⟨rfl, hb⟩
      have HB := Lib.hid (bthen (one_al _ _) hb)
      clear hb
      go_wp2_with fail
      go_ret
      exact ⟨ret_bool (by simp [h1, h2]), HB.out⟩
    · have h2A : ¬ (l.length : Int) ≤ (hi : Int) := by omega
      go_wp2_with fail
      go_ret
      exact ⟨ret_bool (by simp [h1, h2]), one_al _ _⟩
  · have h1A : ¬ (lo : Int) ≤ (l.length : Int) := by omega
    go_wp2_with fail
    go_ret
    exact ⟨ret_bool (by simp [h1]), one_al _ _⟩
set_option maxHeartbeats 1000000 in
theorem each1_stmt (n : N) (v : Value) (ok : Nat → Prop) (q : Nat) (w : World) (hv : RdN ok w v n) (hq : w.cell? ⟨q, 0, none⟩ = some (.func (.func 54) #[] #[])) : Calls Tryd.prog 69 #[v, .pointer (some ⟨q, 0, none⟩)] w fun e w' => e = .returned (.bool (!(stmtK n.kind))) ∧ Below w.heap.size w w' := by
  obtain ⟨A, c, B, d, K, e, rfl, hn⟩ := hv.form
  have hq1 := fun X => bcell (one_al w X) hq
  clear hq hv hn
  go_enter Tryd.func69, Tryd.ntmps69
  go_wp2_with fail
  refine (print_statementK n.kind _).mono ?_
  rintro e1 w1 ⟨rfl, rfl⟩
  go_wp2_with fail
  go_ret
  exact ⟨rfl, one_al _ _⟩
set_option maxRecDepth 20000 in
set_option maxHeartbeats 2000000 in
theorem index_stmt (l : List N) (K : Option Addr) (e : Nat) (ok : Nat → Prop) (q : Nat) (w : World) (hl : RdNs ok w (.slice K l.length e) 0 l) (hlen : l.length ≤ 16777216) (hq : w.cell? ⟨q, 0, none⟩ = some (.func (.func 54) #[] #[])) : Calls Tryd.prog 81 #[.slice K l.length e, (.func (.func 69) #[] #[.pointer (some ⟨q, 0, none⟩)])] w fun e w' => (∃ r : Int, e = .returned (.int .i64 r) ∧ -1 ≤ r ∧ r ≤ 16777216 ∧ decide (0 ≤ r) = l.any fun n => !(stmtK n.kind)) ∧ Below w.heap.size w w' := by
  have HL := Lib.hid hl
  have HQ := Lib.hid hq
  clear hl hq
  go_enter Tryd.func81, Tryd.ntmps81
  go_wp2_with fail
  go_loopw [8] (fun i wr => ∃ k, k ≤ l.length ∧ i = .int .i64 (k : Int) ∧ (l.take k).any (fun n => !(stmtK n.kind)) = false ∧ Below w.heap.size w wr) (fun i _ => l.length - (intOf i).toNat)
  case atStart => exact ⟨0, Nat.zero_le _, rfl, rfl, Below.refl _ _⟩
  case round =>
    obtain ⟨k, hk, rfl, hno, hB⟩ := hrel
    have HB := Lib.hid hB
    have HNo := Lib.hid hno
    clear hB hno
    by_cases hlt : k < l.length
    · have hlA : (k : Int) < (l.length : Int) := by omega
      have h00 : (0 : Int) ≤ (k : Int) := by omega
      have hst := any_take_step hlt (fun n => !(stmtK n.kind))
      have hat := fun h => any_at (p := fun n => !(stmtK n.kind)) hlt h
      obtain ⟨g, off, A', c', B', d', K', e', rfl, _, hk', k0, k1, k2, k3, k4, k5, k6, k7, k8, k9⟩ := (HL.out.below HB.out).elem k hlt
      generalize l[k] = Y at *
      have HK := Lib.hid hk'
      have HST := Lib.hid hst
      have HAT := Lib.hid hat
      clear hk' hst hat
      go_wp2_with fail
      refine (each1_stmt Y _ ok q _ HK.out.rd (bcell HB.out HQ.out)).mono ?_
      rintro e1 w1 ⟨rfl, hb1⟩
      have HB1 := Lib.hid (bthen HB.out hb1)
      clear hb1
      cases hp1 : (stmtK Y.kind) with
      | false =>
        have HN1 := Lib.hid hp1
        clear hp1
        go_wp2_with fail
        go_ret
        exact ⟨⟨k, rfl, by omega, by omega, by rw [HAT.out (by rw [HN1.out]; rfl)]; simp⟩, HB1.out⟩
      | true =>
        have HN1 := Lib.hid hp1
        clear hp1
        go_wp2_with fail
        exact ⟨⟨k + 1, by omega, by go_num, by rw [HST.out, HNo.out, HN1.out]; rfl, HB1.out⟩, by simp [intOf]; omega⟩
    · have hlA : ¬ (k : Int) < (l.length : Int) := by omega
      have hkk : l.take k = l := List.take_of_length_le (by omega)
      rw [hkk] at HNo
      clear hkk
      go_wp2_with fail
      go_ret
      exact ⟨⟨-1, rfl, by omega, by omega, by rw [HNo.out]; rfl⟩, HB.out⟩
theorem contains_stmt (l : List N) (K : Option Addr) (e : Nat) (ok : Nat → Prop) (q : Nat) (w : World) (hl : RdNs ok w (.slice K l.length e) 0 l) (hlen : l.length ≤ 16777216) (hq : w.cell? ⟨q, 0, none⟩ = some (.func (.func 54) #[] #[])) : Calls Tryd.prog 68 #[.slice K l.length e, (.func (.func 69) #[] #[.pointer (some ⟨q, 0, none⟩)])] w fun e w' => e = .returned (.bool (l.any fun n => !(stmtK n.kind))) ∧ Below w.heap.size w w' := by
  have HI := Lib.hid (index_stmt l K e ok q w hl hlen hq)
  clear hl hq
  go_enter Tryd.func68, Tryd.ntmps68
  go_wp2_with fail
  refine HI.out.mono ?_
  rintro e1 w1 ⟨⟨r, rfl, hr1, hr2, hr⟩, hb⟩
  have HB := Lib.hid hb
  have HR := Lib.hid hr
  clear hb hr
  go_wp2_with fail
  go_ret
  exact ⟨ret_bool HR.out, HB.out⟩
set_option maxRecDepth 20000 in
set_option maxHeartbeats 2000000 in
theorem each_stmt (l : List N) (K : Option Addr) (e : Nat) (lo hi : Nat) (ok : Nat → Prop) (w : World) (hl : RdNs ok w (.slice K l.length e) 0 l) (hlen : l.length ≤ 16777216) (hhi : hi ≤ 1099511627776) :
    Calls Tryd.prog 52 #[.slice K l.length e, .int .i64 (lo : Int), .int .i64 (hi : Int), (.func (.func 54) #[] #[])] w fun e w' => e = .returned (.bool (decide (lo ≤ l.length) && (decide (l.length ≤ hi) && (l.map N.kind).all fun k => (stmtK k)))) ∧ Below w.heap.size w w' := by
  have hall : ((l.map N.kind).all fun k => (stmtK k)) = !(l.any fun n => !(stmtK n.kind)) := by
    rw [List.all_map, List.not_any_eq_all_not]
    congr 1
    funext n
    simp
  rw [hall]
  have HC := Lib.hid (contains_stmt l K e ok w.heap.size (w.alloc (.cells #[(.func (.func 54) #[] #[])] 38)) (hl.below (one_al _ _)) hlen (World.cell?_alloc_at _ _ _ _ rfl))
  clear hl hall
  go_enter Tryd.func52, Tryd.ntmps52
  by_cases h1 : lo ≤ l.length
  · have h1A : (lo : Int) ≤ (l.length : Int) := by omega
    by_cases h2 : l.length ≤ hi
    · have h2A : (l.length : Int) ≤ (hi : Int) := by omega
      go_wp2_with fail
      refine HC.out.mono ?_
      rintro e1 w1 ⟨rfl, hb⟩
      have HB := Lib.hid (bthen (one_al _ _) hb)
      clear hb
      go_wp2_with fail
      go_ret
      exact ⟨ret_bool (by simp [h1, h2]), HB.out⟩
    · have h2A : ¬ (l.length : Int) ≤ (hi : Int) := by omega
      go_wp2_with fail
      go_ret
      exact ⟨ret_bool (by simp [h1, h2]), one_al _ _⟩
  · have h1A : ¬ (lo : Int) ≤ (l.length : Int) := by omega
    go_wp2_with fail
    go_ret
    exact ⟨ret_bool (by simp [h1]), one_al _ _⟩
set_option maxHeartbeats 1000000 in
theorem each1_is (n : N) (v : Value) (ok : Nat → Prop) (q : Nat) (mm : Int) (p : Nat) (w : World) (hv : RdN ok w v n) (hp : w.cell? ⟨p, 0, none⟩ = some (.int .i64 mm)) (hq : w.cell? ⟨q, 0, none⟩ = some (.func (.func 70) #[] #[.pointer (some ⟨p, 0, none⟩)])) : Calls Tryd.prog 69 #[v, .pointer (some ⟨q, 0, none⟩)] w fun e w' => e = .returned (.bool (!(n.kind == mm))) ∧ Below w.heap.size w w' := by
  obtain ⟨A, c, B, d, K, e, rfl, hn⟩ := hv.form
  have hq1 := fun X => bcell (one_al w X) hq
  have HP := Lib.hid (fun X => bcell (one_al w X) hp)
  clear hp
  clear hq hv hn
  go_enter Tryd.func69, Tryd.ntmps69
  go_wp2_with fail
  refine (print_is1 n.kind mm p _ (HP.out _)).mono ?_
  rintro e1 w1 ⟨rfl, rfl⟩
  go_wp2_with fail
  go_ret
  exact ⟨rfl, one_al _ _⟩
set_option maxRecDepth 20000 in
set_option maxHeartbeats 2000000 in
theorem index_is (l : List N) (K : Option Addr) (e : Nat) (ok : Nat → Prop) (q : Nat) (mm : Int) (p : Nat) (w : World) (hl : RdNs ok w (.slice K l.length e) 0 l) (hlen : l.length ≤ 16777216) (hp : w.cell? ⟨p, 0, none⟩ = some (.int .i64 mm)) (hq : w.cell? ⟨q, 0, none⟩ = some (.func (.func 70) #[] #[.pointer (some ⟨p, 0, none⟩)])) : Calls Tryd.prog 81 #[.slice K l.length e, (.func (.func 69) #[] #[.pointer (some ⟨q, 0, none⟩)])] w fun e w' => (∃ r : Int, e = .returned (.int .i64 r) ∧ -1 ≤ r ∧ r ≤ 16777216 ∧ decide (0 ≤ r) = l.any fun n => !(n.kind == mm)) ∧ Below w.heap.size w w' := by
  have HL := Lib.hid hl
  have HQ := Lib.hid hq
  have HP := Lib.hid hp
  clear hl hq hp
  go_enter Tryd.func81, Tryd.ntmps81
  go_wp2_with fail
  go_loopw [8] (fun i wr => ∃ k, k ≤ l.length ∧ i = .int .i64 (k : Int) ∧ (l.take k).any (fun n => !(n.kind == mm)) = false ∧ Below w.heap.size w wr) (fun i _ => l.length - (intOf i).toNat)
  case atStart => exact ⟨0, Nat.zero_le _, rfl, rfl, Below.refl _ _⟩
  case round =>
    obtain ⟨k, hk, rfl, hno, hB⟩ := hrel
    have HB := Lib.hid hB
    have HNo := Lib.hid hno
    clear hB hno
    by_cases hlt : k < l.length
    · have hlA : (k : Int) < (l.length : Int) := by omega
      have h00 : (0 : Int) ≤ (k : Int) := by omega
      have hst := any_take_step hlt (fun n => !(n.kind == mm))
      have hat := fun h => any_at (p := fun n => !(n.kind == mm)) hlt h
      obtain ⟨g, off, A', c', B', d', K', e', rfl, _, hk', k0, k1, k2, k3, k4, k5, k6, k7, k8, k9⟩ := (HL.out.below HB.out).elem k hlt
      generalize l[k] = Y at *
      have HK := Lib.hid hk'
      have HST := Lib.hid hst
      have HAT := Lib.hid hat
      clear hk' hst hat
      go_wp2_with fail
      refine (each1_is Y _ ok q mm p _ HK.out.rd (bcell HB.out HP.out) (bcell HB.out HQ.out)).mono ?_
      rintro e1 w1 ⟨rfl, hb1⟩
      have HB1 := Lib.hid (bthen HB.out hb1)
      clear hb1
      cases hp1 : (Y.kind == mm) with
      | false =>
        have HN1 := Lib.hid hp1
        clear hp1
        go_wp2_with fail
        go_ret
        exact ⟨⟨k, rfl, by omega, by omega, by rw [HAT.out (by rw [HN1.out]; rfl)]; simp⟩, HB1.out⟩
      | true =>
        have HN1 := Lib.hid hp1
        clear hp1
        go_wp2_with fail
        exact ⟨⟨k + 1, by omega, by go_num, by rw [HST.out, HNo.out, HN1.out]; rfl, HB1.out⟩, by simp [intOf]; omega⟩
    · have hlA : ¬ (k : Int) < (l.length : Int) := by omega
      have hkk : l.take k = l := List.take_of_length_le (by omega)
      rw [hkk] at HNo
      clear hkk
      go_wp2_with fail
      go_ret
      exact ⟨⟨-1, rfl, by omega, by omega, by rw [HNo.out]; rfl⟩, HB.out⟩
theorem contains_is (l : List N) (K : Option Addr) (e : Nat) (ok : Nat → Prop) (q : Nat) (mm : Int) (p : Nat) (w : World) (hl : RdNs ok w (.slice K l.length e) 0 l) (hlen : l.length ≤ 16777216) (hp : w.cell? ⟨p, 0, none⟩ = some (.int .i64 mm)) (hq : w.cell? ⟨q, 0, none⟩ = some (.func (.func 70) #[] #[.pointer (some ⟨p, 0, none⟩)])) : Calls Tryd.prog 68 #[.slice K l.length e, (.func (.func 69) #[] #[.pointer (some ⟨q, 0, none⟩)])] w fun e w' => e = .returned (.bool (l.any fun n => !(n.kind == mm))) ∧ Below w.heap.size w w' := by
  have HI := Lib.hid (index_is l K e ok q mm p w hl hlen hp hq)
  clear hl hq hp
  go_enter Tryd.func68, Tryd.ntmps68
  go_wp2_with fail
  refine HI.out.mono ?_
  rintro e1 w1 ⟨⟨r, rfl, hr1, hr2, hr⟩, hb⟩
  have HB := Lib.hid hb
  have HR := Lib.hid hr
  clear hb hr
  go_wp2_with fail
  go_ret
  exact ⟨ret_bool HR.out, HB.out⟩
set_option maxRecDepth 20000 in
set_option maxHeartbeats 2000000 in
theorem each_is (l : List N) (K : Option Addr) (e : Nat) (lo hi : Nat) (ok : Nat → Prop) (mm : Int) (p : Nat) (w : World) (hl : RdNs ok w (.slice K l.length e) 0 l) (hlen : l.length ≤ 16777216) (hhi : hi ≤ 1099511627776) (hp : w.cell? ⟨p, 0, none⟩ = some (.int .i64 mm)) :
    Calls Tryd.prog 52 #[.slice K l.length e, .int .i64 (lo : Int), .int .i64 (hi : Int), (.func (.func 70) #[] #[.pointer (some ⟨p, 0, none⟩)])] w fun e w' => e = .returned (.bool (decide (lo ≤ l.length) && (decide (l.length ≤ hi) && (l.map N.kind).all fun k => (k == mm)))) ∧ Below w.heap.size w w' := by
  have hall : ((l.map N.kind).all fun k => (k == mm)) = !(l.any fun n => !(n.kind == mm)) := by
    rw [List.all_map, List.not_any_eq_all_not]
    congr 1
    funext n
    simp
  rw [hall]
  have HC := Lib.hid (contains_is l K e ok w.heap.size mm p (w.alloc (.cells #[(.func (.func 70) #[] #[.pointer (some ⟨p, 0, none⟩)])] 38)) (hl.below (one_al _ _)) hlen (bcell (one_al _ _) hp) (World.cell?_alloc_at _ _ _ _ rfl))
  clear hl hall hp
  go_enter Tryd.func52, Tryd.ntmps52
  by_cases h1 : lo ≤ l.length
  · have h1A : (lo : Int) ≤ (l.length : Int) := by omega
    by_cases h2 : l.length ≤ hi
    · have h2A : (l.length : Int) ≤ (hi : Int) := by omega
      go_wp2_with fail
      refine HC.out.mono ?_
      rintro e1 w1 ⟨rfl, hb⟩
      have HB := Lib.hid (bthen (one_al _ _) hb)
      clear hb
      go_wp2_with fail
      go_ret
      exact ⟨ret_bool (by simp [h1, h2]), HB.out⟩
    · have h2A : ¬ (l.length : Int) ≤ (hi : Int) := by omega
      go_wp2_with fail
      go_ret
      exact ⟨ret_bool (by simp [h1, h2]), one_al _ _⟩
  · have h1A : ¬ (lo : Int) ≤ (l.length : Int) := by omega
    go_wp2_with fail
    go_ret
    exact ⟨ret_bool (by simp [h1]), one_al _ _⟩
end Go.Proofs.YthlfeiiolafonaaDoor
namespace Go.Proofs.YthlfeiiolafonaaDoor
open Go.RowKit Go.IntWalk

theorem cell_at2 {w : World} {X : Obj} {u : Value} {t : TypeId} : ((w.alloc X).alloc (.cells #[u] t)).cell? ⟨w.heap.size + 1, 0, none⟩ = some u := by
  rw [show w.heap.size + 1 = (w.alloc X).heap.size by simp]
  exact World.cell?_alloc_at _ _ _ _ rfl
theorem eq_dec (n m : Nat) (A : Bool) : (decide (m ≤ n) && (decide (n ≤ m) && A)) = (decide (n = m) && A) := by
  rw [← Bool.and_assoc]
  congr 1
  rw [Bool.eq_iff_iff]
  simp
  omega
theorem len_any {n : Nat} (h : n ≤ 16777216) : decide (n ≤ 1099511627776) = true := by simp; omega

set_option maxRecDepth 20000 in
set_option maxHeartbeats 2000000 in
theorem shaped_1 (t : List UInt8) (x0 x1 x2 x3 x4 f a : Value) (l : List N) (K : Option Addr) (e : Nat) (ok : Nat → Prop) (w : World) (hl : RdNs ok w (.slice K l.length e) 0 l) (hlen : l.length ≤ 16777216) (hcap : l.length ≤ e) (hmost : e ≤ 9223372036854775807) :
    Calls Tryd.prog 36 #[.agg #[.int .i64 1, .string ⟨t.toArray⟩, x0, x1, x2, x3, x4, f, .slice K l.length e, a]] w fun e1 w' => e1 = .returned (.bool (shapeK 1 (l.map N.kind))) ∧ Below w.heap.size w w' := by
  have HL := Lib.hid hl
  clear hl
  go_enter Tryd.func36, Tryd.ntmps36
  go_wp2_with fail
  refine (print_is 2 _).mono ?_
  rintro e1 w1 ⟨rfl, rfl⟩
  go_wp2_with fail
  refine (each_is l K e 0 1099511627776 ok 2 _ _ (HL.out.below (two_al _ _ _)) hlen (by decide) cell_at2).mono ?_
  rintro e1 w1 ⟨rfl, hb⟩
  have HB := Lib.hid (bthen (two_al _ _ _) hb)
  clear hb
  go_wp2_with fail
  go_ret
  exact ⟨ret_bool (by rw [len_any hlen]; simp [shapeK, Function.comp_def]), HB.out⟩
set_option maxRecDepth 20000 in
set_option maxHeartbeats 2000000 in
theorem shaped_4 (t : List UInt8) (x0 x1 x2 x3 x4 f a : Value) (l : List N) (K : Option Addr) (e : Nat) (ok : Nat → Prop) (w : World) (hl : RdNs ok w (.slice K l.length e) 0 l) (hlen : l.length ≤ 16777216) (hcap : l.length ≤ e) (hmost : e ≤ 9223372036854775807) :
    Calls Tryd.prog 36 #[.agg #[.int .i64 4, .string ⟨t.toArray⟩, x0, x1, x2, x3, x4, f, .slice K l.length e, a]] w fun e1 w' => e1 = .returned (.bool (shapeK 4 (l.map N.kind))) ∧ Below w.heap.size w w' := by
  have HL := Lib.hid hl
  clear hl
  go_enter Tryd.func36, Tryd.ntmps36
  go_wp2_with fail
  refine (each_stmt l K e 0 1099511627776 ok _ (HL.out.below (one_al _ _)) hlen (by decide)).mono ?_
  rintro e1 w1 ⟨rfl, hb⟩
  have HB := Lib.hid (bthen (one_al _ _) hb)
  clear hb
  go_wp2_with fail
  go_ret
  exact ⟨ret_bool (by rw [len_any hlen]; simp [shapeK, Function.comp_def]), HB.out⟩
set_option maxRecDepth 20000 in
set_option maxHeartbeats 2000000 in
theorem shaped_5 (t : List UInt8) (x0 x1 x2 x3 x4 f a : Value) (l : List N) (K : Option Addr) (e : Nat) (ok : Nat → Prop) (w : World) (hl : RdNs ok w (.slice K l.length e) 0 l) (hlen : l.length ≤ 16777216) (hcap : l.length ≤ e) (hmost : e ≤ 9223372036854775807) :
    Calls Tryd.prog 36 #[.agg #[.int .i64 5, .string ⟨t.toArray⟩, x0, x1, x2, x3, x4, f, .slice K l.length e, a]] w fun e1 w' => e1 = .returned (.bool (shapeK 5 (l.map N.kind))) ∧ Below w.heap.size w w' := by
  have HL := Lib.hid hl
  clear hl
  go_enter Tryd.func36, Tryd.ntmps36
  go_wp2_with fail
  refine (each_expr l K e 0 1 ok _ (HL.out.below (one_al _ _)) hlen (by decide)).mono ?_
  rintro e1 w1 ⟨rfl, hb⟩
  have HB := Lib.hid (bthen (one_al _ _) hb)
  clear hb
  go_wp2_with fail
  go_ret
  exact ⟨ret_bool (by  simp [shapeK, Function.comp_def]), HB.out⟩
set_option maxRecDepth 20000 in
set_option maxHeartbeats 2000000 in
theorem shaped_9 (t : List UInt8) (x0 x1 x2 x3 x4 f a : Value) (l : List N) (K : Option Addr) (e : Nat) (ok : Nat → Prop) (w : World) (hl : RdNs ok w (.slice K l.length e) 0 l) (hlen : l.length ≤ 16777216) (hcap : l.length ≤ e) (hmost : e ≤ 9223372036854775807) :
    Calls Tryd.prog 36 #[.agg #[.int .i64 9, .string ⟨t.toArray⟩, x0, x1, x2, x3, x4, f, .slice K l.length e, a]] w fun e1 w' => e1 = .returned (.bool (shapeK 9 (l.map N.kind))) ∧ Below w.heap.size w w' := by
  have HL := Lib.hid hl
  clear hl
  go_enter Tryd.func36, Tryd.ntmps36
  go_wp2_with fail
  refine (each_expr l K e 0 1 ok _ (HL.out.below (one_al _ _)) hlen (by decide)).mono ?_
  rintro e1 w1 ⟨rfl, hb⟩
  have HB := Lib.hid (bthen (one_al _ _) hb)
  clear hb
  go_wp2_with fail
  go_ret
  exact ⟨ret_bool (by  simp [shapeK, Function.comp_def]), HB.out⟩
set_option maxRecDepth 20000 in
set_option maxHeartbeats 2000000 in
theorem shaped_6 (t : List UInt8) (x0 x1 x2 x3 x4 f a : Value) (l : List N) (K : Option Addr) (e : Nat) (ok : Nat → Prop) (w : World) (hl : RdNs ok w (.slice K l.length e) 0 l) (hlen : l.length ≤ 16777216) (hcap : l.length ≤ e) (hmost : e ≤ 9223372036854775807) :
    Calls Tryd.prog 36 #[.agg #[.int .i64 6, .string ⟨t.toArray⟩, x0, x1, x2, x3, x4, f, .slice K l.length e, a]] w fun e1 w' => e1 = .returned (.bool (shapeK 6 (l.map N.kind))) ∧ Below w.heap.size w w' := by
  have HL := Lib.hid hl
  clear hl
  go_enter Tryd.func36, Tryd.ntmps36
  go_wp2_with fail
  refine (each_expr l K e 1 1 ok _ (HL.out.below (one_al _ _)) hlen (by decide)).mono ?_
  rintro e1 w1 ⟨rfl, hb⟩
  have HB := Lib.hid (bthen (one_al _ _) hb)
  clear hb
  go_wp2_with fail
  go_ret
  exact ⟨ret_bool (by rw [eq_dec]; simp [shapeK, Function.comp_def]), HB.out⟩
set_option maxRecDepth 20000 in
set_option maxHeartbeats 2000000 in
theorem shaped_12 (t : List UInt8) (x0 x1 x2 x3 x4 f a : Value) (l : List N) (K : Option Addr) (e : Nat) (ok : Nat → Prop) (w : World) (hl : RdNs ok w (.slice K l.length e) 0 l) (hlen : l.length ≤ 16777216) (hcap : l.length ≤ e) (hmost : e ≤ 9223372036854775807) :
    Calls Tryd.prog 36 #[.agg #[.int .i64 12, .string ⟨t.toArray⟩, x0, x1, x2, x3, x4, f, .slice K l.length e, a]] w fun e1 w' => e1 = .returned (.bool (shapeK 12 (l.map N.kind))) ∧ Below w.heap.size w w' := by
  have HL := Lib.hid hl
  clear hl
  go_enter Tryd.func36, Tryd.ntmps36
  go_wp2_with fail
  refine (each_expr l K e 1 1 ok _ (HL.out.below (one_al _ _)) hlen (by decide)).mono ?_
  rintro e1 w1 ⟨rfl, hb⟩
  have HB := Lib.hid (bthen (one_al _ _) hb)
  clear hb
  go_wp2_with fail
  go_ret
  exact ⟨ret_bool (by rw [eq_dec]; simp [shapeK, Function.comp_def]), HB.out⟩
set_option maxRecDepth 20000 in
set_option maxHeartbeats 2000000 in
theorem shaped_16 (t : List UInt8) (x0 x1 x2 x3 x4 f a : Value) (l : List N) (K : Option Addr) (e : Nat) (ok : Nat → Prop) (w : World) (hl : RdNs ok w (.slice K l.length e) 0 l) (hlen : l.length ≤ 16777216) (hcap : l.length ≤ e) (hmost : e ≤ 9223372036854775807) :
    Calls Tryd.prog 36 #[.agg #[.int .i64 16, .string ⟨t.toArray⟩, x0, x1, x2, x3, x4, f, .slice K l.length e, a]] w fun e1 w' => e1 = .returned (.bool (shapeK 16 (l.map N.kind))) ∧ Below w.heap.size w w' := by
  have HL := Lib.hid hl
  clear hl
  go_enter Tryd.func36, Tryd.ntmps36
  go_wp2_with fail
  refine (each_expr l K e 1 1 ok _ (HL.out.below (one_al _ _)) hlen (by decide)).mono ?_
  rintro e1 w1 ⟨rfl, hb⟩
  have HB := Lib.hid (bthen (one_al _ _) hb)
  clear hb
  go_wp2_with fail
  go_ret
  exact ⟨ret_bool (by rw [eq_dec]; simp [shapeK, Function.comp_def]), HB.out⟩
set_option maxRecDepth 20000 in
set_option maxHeartbeats 2000000 in
theorem shaped_22 (t : List UInt8) (x0 x1 x2 x3 x4 f a : Value) (l : List N) (K : Option Addr) (e : Nat) (ok : Nat → Prop) (w : World) (hl : RdNs ok w (.slice K l.length e) 0 l) (hlen : l.length ≤ 16777216) (hcap : l.length ≤ e) (hmost : e ≤ 9223372036854775807) :
    Calls Tryd.prog 36 #[.agg #[.int .i64 22, .string ⟨t.toArray⟩, x0, x1, x2, x3, x4, f, .slice K l.length e, a]] w fun e1 w' => e1 = .returned (.bool (shapeK 22 (l.map N.kind))) ∧ Below w.heap.size w w' := by
  have HL := Lib.hid hl
  clear hl
  go_enter Tryd.func36, Tryd.ntmps36
  go_wp2_with fail
  refine (each_expr l K e 1 1 ok _ (HL.out.below (one_al _ _)) hlen (by decide)).mono ?_
  rintro e1 w1 ⟨rfl, hb⟩
  have HB := Lib.hid (bthen (one_al _ _) hb)
  clear hb
  go_wp2_with fail
  go_ret
  exact ⟨ret_bool (by rw [eq_dec]; simp [shapeK, Function.comp_def]), HB.out⟩
set_option maxRecDepth 20000 in
set_option maxHeartbeats 2000000 in
theorem shaped_20 (t : List UInt8) (x0 x1 x2 x3 x4 f a : Value) (l : List N) (K : Option Addr) (e : Nat) (ok : Nat → Prop) (w : World) (hl : RdNs ok w (.slice K l.length e) 0 l) (hlen : l.length ≤ 16777216) (hcap : l.length ≤ e) (hmost : e ≤ 9223372036854775807) :
    Calls Tryd.prog 36 #[.agg #[.int .i64 20, .string ⟨t.toArray⟩, x0, x1, x2, x3, x4, f, .slice K l.length e, a]] w fun e1 w' => e1 = .returned (.bool (shapeK 20 (l.map N.kind))) ∧ Below w.heap.size w w' := by
  have HL := Lib.hid hl
  clear hl
  go_enter Tryd.func36, Tryd.ntmps36
  go_wp2_with fail
  refine (each_expr l K e 1 1 ok _ (HL.out.below (one_al _ _)) hlen (by decide)).mono ?_
  rintro e1 w1 ⟨rfl, hb⟩
  have HB := Lib.hid (bthen (one_al _ _) hb)
  clear hb
  go_wp2_with fail
  go_ret
  exact ⟨ret_bool (by rw [eq_dec]; simp [shapeK, Function.comp_def]), HB.out⟩
set_option maxRecDepth 20000 in
set_option maxHeartbeats 2000000 in
theorem shaped_17 (t : List UInt8) (x0 x1 x2 x3 x4 f a : Value) (l : List N) (K : Option Addr) (e : Nat) (ok : Nat → Prop) (w : World) (hl : RdNs ok w (.slice K l.length e) 0 l) (hlen : l.length ≤ 16777216) (hcap : l.length ≤ e) (hmost : e ≤ 9223372036854775807) :
    Calls Tryd.prog 36 #[.agg #[.int .i64 17, .string ⟨t.toArray⟩, x0, x1, x2, x3, x4, f, .slice K l.length e, a]] w fun e1 w' => e1 = .returned (.bool (shapeK 17 (l.map N.kind))) ∧ Below w.heap.size w w' := by
  have HL := Lib.hid hl
  clear hl
  go_enter Tryd.func36, Tryd.ntmps36
  go_wp2_with fail
  refine (each_expr l K e 2 2 ok _ (HL.out.below (one_al _ _)) hlen (by decide)).mono ?_
  rintro e1 w1 ⟨rfl, hb⟩
  have HB := Lib.hid (bthen (one_al _ _) hb)
  clear hb
  go_wp2_with fail
  go_ret
  exact ⟨ret_bool (by rw [eq_dec]; simp [shapeK, Function.comp_def]), HB.out⟩
set_option maxRecDepth 20000 in
set_option maxHeartbeats 2000000 in
theorem shaped_21 (t : List UInt8) (x0 x1 x2 x3 x4 f a : Value) (l : List N) (K : Option Addr) (e : Nat) (ok : Nat → Prop) (w : World) (hl : RdNs ok w (.slice K l.length e) 0 l) (hlen : l.length ≤ 16777216) (hcap : l.length ≤ e) (hmost : e ≤ 9223372036854775807) :
    Calls Tryd.prog 36 #[.agg #[.int .i64 21, .string ⟨t.toArray⟩, x0, x1, x2, x3, x4, f, .slice K l.length e, a]] w fun e1 w' => e1 = .returned (.bool (shapeK 21 (l.map N.kind))) ∧ Below w.heap.size w w' := by
  have HL := Lib.hid hl
  clear hl
  go_enter Tryd.func36, Tryd.ntmps36
  go_wp2_with fail
  refine (each_expr l K e 2 2 ok _ (HL.out.below (one_al _ _)) hlen (by decide)).mono ?_
  rintro e1 w1 ⟨rfl, hb⟩
  have HB := Lib.hid (bthen (one_al _ _) hb)
  clear hb
  go_wp2_with fail
  go_ret
  exact ⟨ret_bool (by rw [eq_dec]; simp [shapeK, Function.comp_def]), HB.out⟩
set_option maxRecDepth 20000 in
set_option maxHeartbeats 2000000 in
theorem shaped_15 (t : List UInt8) (x0 x1 x2 x3 x4 f a : Value) (l : List N) (K : Option Addr) (e : Nat) (ok : Nat → Prop) (w : World) (hl : RdNs ok w (.slice K l.length e) 0 l) (hlen : l.length ≤ 16777216) (hcap : l.length ≤ e) (hmost : e ≤ 9223372036854775807) :
    Calls Tryd.prog 36 #[.agg #[.int .i64 15, .string ⟨t.toArray⟩, x0, x1, x2, x3, x4, f, .slice K l.length e, a]] w fun e1 w' => e1 = .returned (.bool (shapeK 15 (l.map N.kind))) ∧ Below w.heap.size w w' := by
  have HL := Lib.hid hl
  clear hl
  go_enter Tryd.func36, Tryd.ntmps36
  go_wp2_with fail
  refine (each_expr l K e 0 1099511627776 ok _ (HL.out.below (one_al _ _)) hlen (by decide)).mono ?_
  rintro e1 w1 ⟨rfl, hb⟩
  have HB := Lib.hid (bthen (one_al _ _) hb)
  clear hb
  go_wp2_with fail
  go_ret
  exact ⟨ret_bool (by rw [len_any hlen]; simp [shapeK, Function.comp_def]), HB.out⟩
set_option maxRecDepth 20000 in
set_option maxHeartbeats 2000000 in
theorem shaped_18 (t : List UInt8) (x0 x1 x2 x3 x4 f a : Value) (l : List N) (K : Option Addr) (e : Nat) (ok : Nat → Prop) (w : World) (hl : RdNs ok w (.slice K l.length e) 0 l) (hlen : l.length ≤ 16777216) (hcap : l.length ≤ e) (hmost : e ≤ 9223372036854775807) :
    Calls Tryd.prog 36 #[.agg #[.int .i64 18, .string ⟨t.toArray⟩, x0, x1, x2, x3, x4, f, .slice K l.length e, a]] w fun e1 w' => e1 = .returned (.bool (shapeK 18 (l.map N.kind))) ∧ Below w.heap.size w w' := by
  have HL := Lib.hid hl
  clear hl
  go_enter Tryd.func36, Tryd.ntmps36
  go_wp2_with fail
  refine (each_expr l K e 0 1099511627776 ok _ (HL.out.below (one_al _ _)) hlen (by decide)).mono ?_
  rintro e1 w1 ⟨rfl, hb⟩
  have HB := Lib.hid (bthen (one_al _ _) hb)
  clear hb
  go_wp2_with fail
  go_ret
  exact ⟨ret_bool (by rw [len_any hlen]; simp [shapeK, Function.comp_def]), HB.out⟩
set_option maxRecDepth 20000 in
set_option maxHeartbeats 2000000 in
theorem shaped_19 (t : List UInt8) (x0 x1 x2 x3 x4 f a : Value) (l : List N) (K : Option Addr) (e : Nat) (ok : Nat → Prop) (w : World) (hl : RdNs ok w (.slice K l.length e) 0 l) (hlen : l.length ≤ 16777216) (hcap : l.length ≤ e) (hmost : e ≤ 9223372036854775807) :
    Calls Tryd.prog 36 #[.agg #[.int .i64 19, .string ⟨t.toArray⟩, x0, x1, x2, x3, x4, f, .slice K l.length e, a]] w fun e1 w' => e1 = .returned (.bool (shapeK 19 (l.map N.kind))) ∧ Below w.heap.size w w' := by
  have HL := Lib.hid hl
  clear hl
  go_enter Tryd.func36, Tryd.ntmps36
  go_wp2_with fail
  refine (print_is 20 _).mono ?_
  rintro e1 w1 ⟨rfl, rfl⟩
  go_wp2_with fail
  refine (each_is l K e 0 1099511627776 ok 20 _ _ (HL.out.below (two_al _ _ _)) hlen (by decide) cell_at2).mono ?_
  rintro e1 w1 ⟨rfl, hb⟩
  have HB := Lib.hid (bthen (two_al _ _ _) hb)
  clear hb
  go_wp2_with fail
  go_ret
  exact ⟨ret_bool (by rw [len_any hlen]; simp [shapeK, Function.comp_def]), HB.out⟩
set_option maxRecDepth 20000 in
set_option maxHeartbeats 2000000 in
theorem shaped_3 (t : List UInt8) (x0 x1 x2 x3 x4 f a : Value) (l : List N) (K : Option Addr) (e : Nat) (ok : Nat → Prop) (w : World) (hl : RdNs ok w (.slice K l.length e) 0 l) (hlen : l.length ≤ 16777216) (hcap : l.length ≤ e) (hmost : e ≤ 9223372036854775807) :
    Calls Tryd.prog 36 #[.agg #[.int .i64 3, .string ⟨t.toArray⟩, x0, x1, x2, x3, x4, f, .slice K l.length e, a]] w fun e1 w' => e1 = .returned (.bool (shapeK 3 (l.map N.kind))) ∧ Below w.heap.size w w' := by
  clear hl
  go_enter Tryd.func36, Tryd.ntmps36
  go_wp2_with fail
  go_ret
  exact ⟨ret_bool (by rw [Bool.eq_iff_iff]; simp [shapeK, ← List.length_eq_zero_iff]; omega), one_al _ _⟩
set_option maxRecDepth 20000 in
set_option maxHeartbeats 2000000 in
theorem shaped_10 (t : List UInt8) (x0 x1 x2 x3 x4 f a : Value) (l : List N) (K : Option Addr) (e : Nat) (ok : Nat → Prop) (w : World) (hl : RdNs ok w (.slice K l.length e) 0 l) (hlen : l.length ≤ 16777216) (hcap : l.length ≤ e) (hmost : e ≤ 9223372036854775807) :
    Calls Tryd.prog 36 #[.agg #[.int .i64 10, .string ⟨t.toArray⟩, x0, x1, x2, x3, x4, f, .slice K l.length e, a]] w fun e1 w' => e1 = .returned (.bool (shapeK 10 (l.map N.kind))) ∧ Below w.heap.size w w' := by
  clear hl
  go_enter Tryd.func36, Tryd.ntmps36
  go_wp2_with fail
  go_ret
  exact ⟨ret_bool (by rw [Bool.eq_iff_iff]; simp [shapeK, ← List.length_eq_zero_iff]; omega), one_al _ _⟩
set_option maxRecDepth 20000 in
set_option maxHeartbeats 2000000 in
theorem shaped_11 (t : List UInt8) (x0 x1 x2 x3 x4 f a : Value) (l : List N) (K : Option Addr) (e : Nat) (ok : Nat → Prop) (w : World) (hl : RdNs ok w (.slice K l.length e) 0 l) (hlen : l.length ≤ 16777216) (hcap : l.length ≤ e) (hmost : e ≤ 9223372036854775807) :
    Calls Tryd.prog 36 #[.agg #[.int .i64 11, .string ⟨t.toArray⟩, x0, x1, x2, x3, x4, f, .slice K l.length e, a]] w fun e1 w' => e1 = .returned (.bool (shapeK 11 (l.map N.kind))) ∧ Below w.heap.size w w' := by
  clear hl
  go_enter Tryd.func36, Tryd.ntmps36
  go_wp2_with fail
  go_ret
  exact ⟨ret_bool (by rw [Bool.eq_iff_iff]; simp [shapeK, ← List.length_eq_zero_iff]; omega), one_al _ _⟩
set_option maxRecDepth 20000 in
set_option maxHeartbeats 2000000 in
theorem shaped_13 (t : List UInt8) (x0 x1 x2 x3 x4 f a : Value) (l : List N) (K : Option Addr) (e : Nat) (ok : Nat → Prop) (w : World) (hl : RdNs ok w (.slice K l.length e) 0 l) (hlen : l.length ≤ 16777216) (hcap : l.length ≤ e) (hmost : e ≤ 9223372036854775807) :
    Calls Tryd.prog 36 #[.agg #[.int .i64 13, .string ⟨t.toArray⟩, x0, x1, x2, x3, x4, f, .slice K l.length e, a]] w fun e1 w' => e1 = .returned (.bool (shapeK 13 (l.map N.kind))) ∧ Below w.heap.size w w' := by
  clear hl
  go_enter Tryd.func36, Tryd.ntmps36
  go_wp2_with fail
  go_ret
  exact ⟨ret_bool (by rw [Bool.eq_iff_iff]; simp [shapeK, ← List.length_eq_zero_iff]; omega), one_al _ _⟩
set_option maxRecDepth 20000 in
set_option maxHeartbeats 2000000 in
theorem shaped_14 (t : List UInt8) (x0 x1 x2 x3 x4 f a : Value) (l : List N) (K : Option Addr) (e : Nat) (ok : Nat → Prop) (w : World) (hl : RdNs ok w (.slice K l.length e) 0 l) (hlen : l.length ≤ 16777216) (hcap : l.length ≤ e) (hmost : e ≤ 9223372036854775807) :
    Calls Tryd.prog 36 #[.agg #[.int .i64 14, .string ⟨t.toArray⟩, x0, x1, x2, x3, x4, f, .slice K l.length e, a]] w fun e1 w' => e1 = .returned (.bool (shapeK 14 (l.map N.kind))) ∧ Below w.heap.size w w' := by
  clear hl
  go_enter Tryd.func36, Tryd.ntmps36
  go_wp2_with fail
  go_ret
  exact ⟨ret_bool (by rw [Bool.eq_iff_iff]; simp [shapeK, ← List.length_eq_zero_iff]; omega), one_al _ _⟩
end Go.Proofs.YthlfeiiolafonaaDoor
namespace Go.Proofs.YthlfeiiolafonaaDoor
open Go.RowKit Go.IntWalk

set_option maxRecDepth 20000 in
set_option maxHeartbeats 4000000 in
theorem shaped_8 (t : List UInt8) (x0 x1 x2 x3 x4 f a : Value) (l : List N) (K : Option Addr) (e : Nat) (ok : Nat → Prop) (w : World) (hl : RdNs ok w (.slice K l.length e) 0 l) (hlen : l.length ≤ 16777216) (hcap : l.length ≤ e) (hmost : e ≤ 9223372036854775807) :
    Calls Tryd.prog 36 #[.agg #[.int .i64 8, .string ⟨t.toArray⟩, x0, x1, x2, x3, x4, f, .slice K l.length e, a]] w fun e1 w' => e1 = .returned (.bool (shapeK 8 (l.map N.kind))) ∧ Below w.heap.size w w' := by
  by_cases h2 : l.length = 2
  · match l, h2 with
    | [y, z], _ =>
    obtain ⟨g, off, A', c', B', d', K', e', rfl, _, hk, k0, _⟩ := hl.elem 0 (by simp)
    obtain ⟨g', off', A2, c2, B2, d2, K2, e2, hg, _, hj, j0, _⟩ := hl.elem 1 (by simp)
    injection hg with hg
    injection hg with hg1 hg2
    subst hg1 hg2
    simp only [List.getElem_cons_zero, List.getElem_cons_succ, Nat.zero_mul, Nat.one_mul, Nat.add_zero] at k0 j0
    have k1 := fun X => bcell (one_al w X) k0
    have j1 := fun X => bcell (one_al w X) j0
    clear hl hk hj k0 j0
    have hs : shapeK 8 ([y, z].map N.kind) = (exprK y.kind && z.kind == 4) := by simp [shapeK]
    rw [hs]
    generalize y.kind = ky at *
    generalize z.kind = kz at *
    go_enter Tryd.func36, Tryd.ntmps36
    go_wp2_with fail
    refine (print_expression ky _).mono ?_
    rintro e1 w1 ⟨rfl, rfl⟩
    cases hy : exprK ky with
    | true =>
      have HY := Lib.hid hy
      clear hy
      go_wp2_with fail
      go_ret
      exact ⟨ret_bool (by rw [HY.out]; simp), one_al _ _⟩
    | false =>
      have HY := Lib.hid hy
      clear hy
      go_wp2_with fail
      go_ret
      exact ⟨ret_bool (by rw [HY.out]; simp), one_al _ _⟩
  · have hne : ((l.length : Int) - 1 == 1) = false := by rw [beq_eq_false_iff_ne]; omega
    have hs : shapeK 8 (l.map N.kind) = false := by simp [shapeK, h2]
    rw [hs]
    clear hl h2 hs
    go_enter Tryd.func36, Tryd.ntmps36
    go_wp2_with fail
    go_ret
    exact ⟨rfl, one_al _ _⟩
set_option maxRecDepth 20000 in
set_option maxHeartbeats 4000000 in
theorem shaped_7_2 (t : List UInt8) (x0 x1 x2 x3 x4 f a : Value) (y : N) (z : N) (K : Option Addr) (e : Nat) (ok : Nat → Prop) (w : World) (hl : RdNs ok w (.slice K 2 e) 0 [y, z]) (hmost : e ≤ 9223372036854775807) :
    Calls Tryd.prog 36 #[.agg #[.int .i64 7, .string ⟨t.toArray⟩, x0, x1, x2, x3, x4, f, .slice K 2 e, a]] w fun e1 w' => e1 = .returned (.bool (shapeK 7 ([y, z].map N.kind))) ∧ Below w.heap.size w w' := by
  obtain ⟨g, off, A', c', B', d', K', e', rfl, _, hk, k0, _⟩ := hl.elem 0 (by simp)
  have k1 := fun X => bcell (one_al w X) k0
  obtain ⟨g1, off1, _, _, _, _, _, _, hg, _, _, j1, _⟩ := hl.elem 1 (by simp)
  injection hg with hg
  injection hg with hg1 hg2
  subst hg1 hg2
  have q1 := fun X => bcell (one_al w X) j1
  simp only [List.getElem_cons_zero, List.getElem_cons_succ, Nat.zero_mul, Nat.one_mul, Nat.add_zero, Nat.reduceMul] at k1 q1
  clear hl hk k0 j1
  have hs : shapeK 7 ([y, z].map N.kind) = (exprK y.kind && (z.kind == 4 && (z.kind == 4 || z.kind == 7))) := by simp [shapeK]
  rw [hs]
  generalize y.kind = ky at *
  generalize z.kind = kz at *
  go_enter Tryd.func36, Tryd.ntmps36
  go_wp2_with fail
  refine (print_expression ky _).mono ?_
  rintro e1 w1 ⟨rfl, rfl⟩
  cases hy : exprK ky with
  | false =>
    have HY := Lib.hid hy
    clear hy
    go_wp2_with fail
    all_goals go_ret
    all_goals exact ⟨ret_bool (by rw [HY.out]; rfl), one_al _ _⟩
  | true =>
    have HY := Lib.hid hy
    clear hy
    go_wp2_with fail
    all_goals go_ret
    all_goals (refine ⟨ret_bool ?_, one_al _ _⟩; rw [HY.out]; simp_all)
set_option maxRecDepth 20000 in
set_option maxHeartbeats 4000000 in
theorem shaped_7_3 (t : List UInt8) (x0 x1 x2 x3 x4 f a : Value) (y : N) (z : N) (u : N) (K : Option Addr) (e : Nat) (ok : Nat → Prop) (w : World) (hl : RdNs ok w (.slice K 3 e) 0 [y, z, u]) (hmost : e ≤ 9223372036854775807) :
    Calls Tryd.prog 36 #[.agg #[.int .i64 7, .string ⟨t.toArray⟩, x0, x1, x2, x3, x4, f, .slice K 3 e, a]] w fun e1 w' => e1 = .returned (.bool (shapeK 7 ([y, z, u].map N.kind))) ∧ Below w.heap.size w w' := by
  obtain ⟨g, off, A', c', B', d', K', e', rfl, _, hk, k0, _⟩ := hl.elem 0 (by simp)
  have k1 := fun X => bcell (one_al w X) k0
  obtain ⟨g1, off1, _, _, _, _, _, _, hg, _, _, j1, _⟩ := hl.elem 1 (by simp)
  injection hg with hg
  injection hg with hg1 hg2
  subst hg1 hg2
  have q1 := fun X => bcell (one_al w X) j1
  obtain ⟨g2, off2, _, _, _, _, _, _, hg, _, _, j2, _⟩ := hl.elem 2 (by simp)
  injection hg with hg
  injection hg with hg1 hg2
  subst hg1 hg2
  have q2 := fun X => bcell (one_al w X) j2
  simp only [List.getElem_cons_zero, List.getElem_cons_succ, Nat.zero_mul, Nat.one_mul, Nat.add_zero, Nat.reduceMul] at k1 q1 q2
  clear hl hk k0 j1 j2
  have hs : shapeK 7 ([y, z, u].map N.kind) = (exprK y.kind && (z.kind == 4 && (u.kind == 4 || u.kind == 7))) := by simp [shapeK]
  rw [hs]
  generalize y.kind = ky at *
  generalize z.kind = kz at *
  generalize u.kind = ku at *
  go_enter Tryd.func36, Tryd.ntmps36
  go_wp2_with fail
  refine (print_expression ky _).mono ?_
  rintro e1 w1 ⟨rfl, rfl⟩
  cases hy : exprK ky with
  | false =>
    have HY := Lib.hid hy
    clear hy
    go_wp2_with fail
    all_goals go_ret
    all_goals exact ⟨ret_bool (by rw [HY.out]; rfl), one_al _ _⟩
  | true =>
    have HY := Lib.hid hy
    clear hy
    go_wp2_with fail
    all_goals go_ret
    all_goals (refine ⟨ret_bool ?_, one_al _ _⟩; rw [HY.out]; simp_all)
set_option maxRecDepth 20000 in
set_option maxHeartbeats 4000000 in
theorem shaped_7_no (t : List UInt8) (x0 x1 x2 x3 x4 f a : Value) (l : List N) (h2 : l.length ≠ 2) (h3 : l.length ≠ 3) (K : Option Addr) (e : Nat) (ok : Nat → Prop) (w : World) (hl : RdNs ok w (.slice K l.length e) 0 l) (hlen : l.length ≤ 16777216) (hmost : e ≤ 9223372036854775807) :
    Calls Tryd.prog 36 #[.agg #[.int .i64 7, .string ⟨t.toArray⟩, x0, x1, x2, x3, x4, f, .slice K l.length e, a]] w fun e1 w' => e1 = .returned (.bool (shapeK 7 (l.map N.kind))) ∧ Below w.heap.size w w' := by
  have hne : ((l.length : Int) - 1 == 1) = false := by rw [beq_eq_false_iff_ne]; omega
  have hne2 : ((l.length : Int) - 1 == 2) = false := by rw [beq_eq_false_iff_ne]; omega
  have hs : shapeK 7 (l.map N.kind) = false := by simp [shapeK, h2, h3]
  rw [hs]
  clear hl h2 h3 hs
  go_enter Tryd.func36, Tryd.ntmps36
  go_wp2_with fail
  go_ret
  exact ⟨rfl, one_al _ _⟩
theorem shaped_7 (t : List UInt8) (x0 x1 x2 x3 x4 f a : Value) (l : List N) (K : Option Addr) (e : Nat) (ok : Nat → Prop) (w : World) (hl : RdNs ok w (.slice K l.length e) 0 l) (hlen : l.length ≤ 16777216) (hcap : l.length ≤ e) (hmost : e ≤ 9223372036854775807) :
    Calls Tryd.prog 36 #[.agg #[.int .i64 7, .string ⟨t.toArray⟩, x0, x1, x2, x3, x4, f, .slice K l.length e, a]] w fun e1 w' => e1 = .returned (.bool (shapeK 7 (l.map N.kind))) ∧ Below w.heap.size w w' := by
  by_cases h2 : l.length = 2
  · match l, h2 with
    | [y, z], _ => exact shaped_7_2 t x0 x1 x2 x3 x4 f a y z K e ok w hl hmost
  · by_cases h3 : l.length = 3
    · match l, h3 with
      | [y, z, u], _ => exact shaped_7_3 t x0 x1 x2 x3 x4 f a y z u K e ok w hl hmost
    · exact shaped_7_no t x0 x1 x2 x3 x4 f a l h2 h3 K e ok w hl hlen hmost
end Go.Proofs.YthlfeiiolafonaaDoor
namespace Go.Proofs.YthlfeiiolafonaaDoor
open Go.RowKit Go.IntWalk

theorem below_drewN2 {n : Nat} {a w : World} (h : Below n a w) {m : Nat} : Below n a (w.drewN m) := ⟨h.os, h.tape, h.output, h.size, h.block⟩
theorem two_al_d (w : World) (X Y : Obj) : Below w.heap.size w ((w.alloc X).alloc Y).drew := (two_al w X Y).drew
theorem cell_at2_d {w : World} {X : Obj} {u : Value} {t : TypeId} : ((w.alloc X).alloc (.cells #[u] t)).drew.cell? ⟨w.heap.size + 1, 0, none⟩ = some u := cell_at2
theorem shapeK_fn {l : List N} {n : Nat} (hn : l.length = n + 1) {z : N} (hz : l[n]'(by omega) = z) : shapeK 2 (l.map N.kind) = (z.kind == 4 && ((l.take n).map N.kind).all (· == 3)) := by
  have hl : l = l.take n ++ [z] := by
    rw [← hz, List.take_append_getElem]
    exact (List.take_of_length_le (by omega)).symm
  have h1 : l.map N.kind = (l.take n).map N.kind ++ [z.kind] := by
    conv => lhs; rw [hl]
    simp
  rw [h1]
  simp [shapeK]
set_option maxRecDepth 20000 in
set_option maxHeartbeats 4000000 in
theorem shaped_2_no (t : List UInt8) (x0 x1 x2 x3 x4 f a : Value) (K : Option Addr) (e : Nat) (w : World) :
    Calls Tryd.prog 36 #[.agg #[.int .i64 2, .string ⟨t.toArray⟩, x0, x1, x2, x3, x4, f, .slice K 0 e, a]] w fun e1 w' => e1 = .returned (.bool false) ∧ Below w.heap.size w w' := by
  go_enter Tryd.func36, Tryd.ntmps36
  go_upto_region 7 with fail
  go_quiet (fail)
  go_wp2_with fail
  all_goals go_ret
  all_goals exact ⟨rfl, below_drewN2 (one_al _ _)⟩
set_option maxRecDepth 20000 in
set_option maxHeartbeats 4000000 in
theorem shaped_2_cons (t : List UInt8) (x0 x1 x2 x3 x4 f a : Value) (l : List N) (n : Nat) (hn : l.length = n + 1) (z : N) (hz : l[n]'(by omega) = z) (K : Option Addr) (e : Nat) (ok : Nat → Prop) (w : World) (hl : RdNs ok w (.slice K (n + 1) e) 0 l) (hlen : n ≤ 16777215) (hcap : n + 1 ≤ e) (hmost : e ≤ 9223372036854775807) :
    Calls Tryd.prog 36 #[.agg #[.int .i64 2, .string ⟨t.toArray⟩, x0, x1, x2, x3, x4, f, .slice K (n + 1) e, a]] w fun e1 w' => e1 = .returned (.bool (z.kind == 4 && ((l.take n).map N.kind).all (· == 3))) ∧ Below w.heap.size w w' := by
  obtain ⟨g, off, A', c', B', d', K', e', rfl, _, hk, k0, _⟩ := hl.elem n (by omega)
  have k1 := fun X => bcell (one_al w X) k0
  rw [hz] at k1
  have htl : (l.take n).length = n := by rw [List.length_take]; omega
  have hl2 : RdNs ok w (.slice (some ⟨g, off, none⟩) (l.take n).length e) 0 (l.take n) := (hl.take n).reslice
  have hn0 : (0 : Int) ≤ (n : Int) := by omega
  have hn1 : (n : Int) ≤ 16777215 := by omega
  have hn2 : (n : Int) < (e : Int) := by omega
  have hn3 : (e : Int) ≤ 9223372036854775807 := by omega
  have HE := Lib.hid (fun (p : Nat) (W : World) (h : Below w.heap.size w W) (hp : W.cell? ⟨p, 0, none⟩ = some (.int .i64 3)) => each_is (l.take n) (some ⟨g, off, none⟩) e 0 1099511627776 ok 3 p W (hl2.below h) (by omega) (by decide) hp)
  rw [htl] at HE
  have Hlen := Lib.hid hlen
  clear hl hl2 k0 hk hz
  generalize z.kind = kz at *
  cases hkz : kz == 4 with
  | false =>
    go_enter Tryd.func36, Tryd.ntmps36
    go_upto_region 7 with fail
    go_quiet (fail)
    go_wp2_with fail
    all_goals go_ret
    all_goals exact ⟨rfl, below_drewN2 (one_al _ _)⟩
  | true =>
    go_enter Tryd.func36, Tryd.ntmps36
    go_upto_region 7 with fail
    go_region_with (first
      | (go_at_call 53; refine (print_is 3 _).mono ?_; rintro e1 w1 ⟨rfl, rfl⟩)
      | (go_at_call 52; refine (HE.out _ _ (two_al_d _ _ _) cell_at2_d).mono ?_; rintro e1 w1 ⟨rfl, hb⟩; have HB := Lib.hid (bthen (two_al_d _ _ _) hb); clear hb)
      | fail)
    all_goals go_wp2_with fail
    all_goals go_ret
    all_goals (refine ⟨ret_bool ?_, HB.out⟩; have := Hlen.out; rw [len_any (show n ≤ 16777216 by omega), List.map_take])
theorem shaped_2 (t : List UInt8) (x0 x1 x2 x3 x4 f a : Value) (l : List N) (K : Option Addr) (e : Nat) (ok : Nat → Prop) (w : World) (hl : RdNs ok w (.slice K l.length e) 0 l) (hlen : l.length ≤ 16777216) (hcap : l.length ≤ e) (hmost : e ≤ 9223372036854775807) :
    Calls Tryd.prog 36 #[.agg #[.int .i64 2, .string ⟨t.toArray⟩, x0, x1, x2, x3, x4, f, .slice K l.length e, a]] w fun e1 w' => e1 = .returned (.bool (shapeK 2 (l.map N.kind))) ∧ Below w.heap.size w w' := by
  cases hl0 : l.length with
  | zero =>
    obtain rfl : l = [] := List.length_eq_zero_iff.1 hl0
    exact shaped_2_no t x0 x1 x2 x3 x4 f a K e w
  | succ n =>
    rw [hl0] at hl hlen hcap
    rw [shapeK_fn hl0 rfl]
    exact shaped_2_cons t x0 x1 x2 x3 x4 f a l n hl0 _ rfl K e ok w hl (by omega) hcap hmost
/-- print.shaped -/
theorem print_shaped (n : N) (h1 : 1 ≤ n.kind) (h22 : n.kind ≤ 22) (v : Value) (ok : Nat → Prop) (w : World) (hv : RdN ok w v n) :
    Calls Tryd.prog 36 #[v] w fun e1 w' => e1 = .returned (.bool (shapeK n.kind (n.kids.map N.kind))) ∧ Below w.heap.size w w' := by
  obtain ⟨A, c, B, d, K, e, rfl, hn⟩ := hv.form
  cases n with
  | mk k t x f l a =>
  simp only [N.kind] at h1 h22
  have hk : k = 1 ∨ k = 2 ∨ k = 3 ∨ k = 4 ∨ k = 5 ∨ k = 6 ∨ k = 7 ∨ k = 8 ∨ k = 9 ∨ k = 10 ∨ k = 11 ∨ k = 12 ∨ k = 13 ∨ k = 14 ∨ k = 15 ∨ k = 16 ∨ k = 17 ∨ k = 18 ∨ k = 19 ∨ k = 20 ∨ k = 21 ∨ k = 22 := by omega
  have hl := hn.kids
  have h3 := hn.len
  have h4 := hn.cap
  have h5 := hn.most
  rcases hk with rfl | rfl | rfl | rfl | rfl | rfl | rfl | rfl | rfl | rfl | rfl | rfl | rfl | rfl | rfl | rfl | rfl | rfl | rfl | rfl | rfl | rfl
  · exact shaped_1 _ _ _ _ _ _ _ _ l K e ok w hl h3 h4 h5
  · exact shaped_2 _ _ _ _ _ _ _ _ l K e ok w hl h3 h4 h5
  · exact shaped_3 _ _ _ _ _ _ _ _ l K e ok w hl h3 h4 h5
  · exact shaped_4 _ _ _ _ _ _ _ _ l K e ok w hl h3 h4 h5
  · exact shaped_5 _ _ _ _ _ _ _ _ l K e ok w hl h3 h4 h5
  · exact shaped_6 _ _ _ _ _ _ _ _ l K e ok w hl h3 h4 h5
  · exact shaped_7 _ _ _ _ _ _ _ _ l K e ok w hl h3 h4 h5
  · exact shaped_8 _ _ _ _ _ _ _ _ l K e ok w hl h3 h4 h5
  · exact shaped_9 _ _ _ _ _ _ _ _ l K e ok w hl h3 h4 h5
  · exact shaped_10 _ _ _ _ _ _ _ _ l K e ok w hl h3 h4 h5
  · exact shaped_11 _ _ _ _ _ _ _ _ l K e ok w hl h3 h4 h5
  · exact shaped_12 _ _ _ _ _ _ _ _ l K e ok w hl h3 h4 h5
  · exact shaped_13 _ _ _ _ _ _ _ _ l K e ok w hl h3 h4 h5
  · exact shaped_14 _ _ _ _ _ _ _ _ l K e ok w hl h3 h4 h5
  · exact shaped_15 _ _ _ _ _ _ _ _ l K e ok w hl h3 h4 h5
  · exact shaped_16 _ _ _ _ _ _ _ _ l K e ok w hl h3 h4 h5
  · exact shaped_17 _ _ _ _ _ _ _ _ l K e ok w hl h3 h4 h5
  · exact shaped_18 _ _ _ _ _ _ _ _ l K e ok w hl h3 h4 h5
  · exact shaped_19 _ _ _ _ _ _ _ _ l K e ok w hl h3 h4 h5
  · exact shaped_20 _ _ _ _ _ _ _ _ l K e ok w hl h3 h4 h5
  · exact shaped_21 _ _ _ _ _ _ _ _ l K e ok w hl h3 h4 h5
  · exact shaped_22 _ _ _ _ _ _ _ _ l K e ok w hl h3 h4 h5
end Go.Proofs.YthlfeiiolafonaaDoor
