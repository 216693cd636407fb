/- Contracts of what counts the parts of values and trees: print's values, parts, fits; the reference's; the statements' many, nodes, few, slim. Printed by gen_count.py. -/
import Derived.Test.YthlfeiiolafonaaDoorPrintLeaf
import Derived.Test.YthlfeiiolafonaaDoorLenB
set_option linter.unusedVariables false
set_option linter.unusedSimpArgs false
namespace Go.Proofs.YthlfeiiolafonaaDoor
open Go.RowKit Go.IntWalk

theorem vsizes_step {l : List V} {k : Nat} (h : k < l.length) : vsizes (l.take (k + 1)) = vsizes (l.take k) + vsize l[k] := by
  rw [← List.take_append_getElem h]
  have : ∀ (a : List V) (x : V), vsizes (a ++ [x]) = vsizes a + vsize x := fun a x => by
    induction a with
    | nil => simp [vsizes]
    | cons y a ih => rw [List.cons_append, vsizes, vsizes, ih]; omega
  exact this _ _
theorem nsizes_step {l : List N} {k : Nat} (h : k < l.length) : nsizes (l.take (k + 1)) = nsizes (l.take k) + nsize l[k] := by
  rw [← List.take_append_getElem h]
  have : ∀ (a : List N) (x : N), nsizes (a ++ [x]) = nsizes a + nsize x := fun a x => by
    induction a with
    | nil => simp [nsizes]
    | cons y a ih => rw [List.cons_append, nsizes, nsizes, ih]; omega
  exact this _ _
theorem vsizes_le (l : List V) (k : Nat) : vsizes (l.take k) ≤ vsizes l := by
  induction l generalizing k with
  | nil => simp
  | cons x l ih =>
    cases k with
    | zero => simp [vsizes]
    | succ k => rw [List.take_succ_cons, vsizes, vsizes]; have := ih k; omega
theorem nsizes_le (l : List N) (k : Nat) : nsizes (l.take k) ≤ nsizes l := by
  induction l generalizing k with
  | nil => simp
  | cons x l ih =>
    cases k with
    | zero => simp [nsizes]
    | succ k => rw [List.take_succ_cons, nsizes, nsizes]; have := ih k; omega
theorem vsize_eq (X : V) : vsize X = 1 + vsizes X.parts := by cases X; rw [vsize]; rfl
theorem nsize_eq (n : N) : nsize n = vsize n.val + nsizes n.kids := by cases n; rw [nsize]; rfl
theorem boxv5 {w w1 : World} {c0 c1 c2 c3 c4 : Value} {t : TypeId} (h : Below (w.alloc (.cells #[c0, c1, c2, c3, c4] t)).heap.size (w.alloc (.cells #[c0, c1, c2, c3, c4] t)) w1) :
    w1.cell? ⟨w.heap.size, 0, none⟩ = some c0 ∧ w1.cell? ⟨w.heap.size, 1, none⟩ = some c1 ∧ w1.cell? ⟨w.heap.size, 2, none⟩ = some c2 ∧ w1.cell? ⟨w.heap.size, 3, none⟩ = some c3 ∧ w1.cell? ⟨w.heap.size, 4, none⟩ = some c4 :=
  ⟨bcell h (World.cell?_alloc_at _ _ _ _ rfl), bcell h (World.cell?_alloc_at _ _ _ _ rfl), bcell h (World.cell?_alloc_at _ _ _ _ rfl), bcell h (World.cell?_alloc_at _ _ _ _ rfl), bcell h (World.cell?_alloc_at _ _ _ _ rfl)⟩
theorem min_lt {a b : Nat} (h : min a b < b) : min a b = a := by omega

set_option maxRecDepth 20000 in
set_option maxHeartbeats 2000000 in
theorem print_values (m : Nat) : ∀ (X : V) (v : Value) (ok : Nat → Prop) (w : World) (s : Nat) (hv : RdV ok w v X) (hm : SizeOf.sizeOf X ≤ m) (hs : s ≤ 20000),
    Calls Tryd.prog 46 #[v, .int .i64 (s : Int)] w fun e w' => e = .returned (.int .i64 ((min (s + vsize X) 20001 : Nat) : Int)) ∧ Below w.heap.size w w' := by
  induction m using Nat.strongRecOn with
  | _ m ih =>
  intro X v ok w s hv hm hs
  obtain ⟨_, _, _, lv, kv, hvv, _, hls, _⟩ := hv.open
  obtain ⟨A, c, B, d, rfl, _⟩ := hv.form
  injection hvv with hvv
  simp only [Array.mk.injEq, List.cons.injEq, and_true, true_and] at hvv
  obtain ⟨rfl, rfl⟩ := hvv
  have HL := Lib.hid hls
  clear hls
  have hsz := fun (i : Nat) (hi : i < X.parts.length) => V.sz_part (x := X) hi
  have Hsz := Lib.hid hsz
  have Hm := Lib.hid hm
  have Hih := Lib.hid ih
  have Hv := Lib.hid hv
  have hs0 : (0 : Int) ≤ (s : Int) := by omega
  have hs1 : (s : Int) ≤ 1000000 := by omega
  have Hs := Lib.hid hs
  clear hsz hm ih hv hs
  go_enter Tryd.func46, Tryd.ntmps46
  go_wp2_with fail
  go_loopw [1, 12] (fun q i wr => ∃ k, k ≤ X.parts.length ∧ i = .int .i64 (k : Int) ∧ q = .int .i64 ((min (s + 1 + vsizes (X.parts.take k)) 20001 : Nat) : Int) ∧ Below (w.alloc (.cells #[.int .i64 X.kind, .int .i64 X.num, .string ⟨X.str.toArray⟩, .slice A X.parts.length c, .slice B X.keys.length d] 25)).heap.size (w.alloc (.cells #[.int .i64 X.kind, .int .i64 X.num, .string ⟨X.str.toArray⟩, .slice A X.parts.length c, .slice B X.keys.length d] 25)) wr) (fun _ i _ => X.parts.length - (intOf i).toNat)
  case atStart => exact ⟨0, Nat.zero_le _, rfl, by have := Hs.out; simp [vsizes]; try omega, Below.refl _ _⟩
  case round =>
    obtain ⟨k, hk, rfl, rfl, hB⟩ := hrel
    have HB := Lib.hid hB
    obtain ⟨q, hq⟩ : ∃ q : Nat, q = min (s + 1 + vsizes (X.parts.take k)) 20001 := ⟨_, rfl⟩
    rw [← hq]
    have Hq := Lib.hid hq
    have hq1 : (q : Int) ≤ 1000001 := by have := Hs.out; omega
    have hq2 : (0 : Int) ≤ (q : Int) := by omega
    clear hB hq
    by_cases hlt : k < X.parts.length
    · have hlA : (k : Int) < (X.parts.length : Int) := by omega
      have h00 : (0 : Int) ≤ (k : Int) := by omega
      have hst := vsizes_step hlt
      have hle := vsizes_le X.parts (k + 1)
      have hih := fun (v : Value) (W : World) (s : Nat) (hv : RdV ok W v X.parts[k]) => Hih.out (SizeOf.sizeOf X.parts[k]) (Nat.lt_of_lt_of_le (Hsz.out k hlt) Hm.out) X.parts[k] v ok W s hv (Nat.le_refl _)
      have hps := vsize_pos X.parts[k]
      obtain ⟨g, off, A', c', B', d', rfl, _, hk, k0, k1, k2, k3, k4⟩ := (HL.out.below (bthen (one_al _ _) HB.out)).elem k hlt
      generalize X.parts[k] = Y at *
      have HK := Lib.hid hk
      have HST := Lib.hid hst
      have HLE := Lib.hid hle
      have HIH := Lib.hid hih
      have HPS := Lib.hid hps
      clear hk hst hle hih hps
      by_cases hbig : 20000 < q
      · have hbA : (20000 : Int) < (q : Int) := by omega
        go_wp2_with fail
        go_ret
        exact ⟨ret_int (by have h1 := Hq.out; have h2 := HST.out; have h3 := HLE.out; have h4 := HPS.out; have h5 := vsize_eq X; omega), bthen (bthen (one_al _ _) HB.out) (one_al _ _)⟩
      · have hbA : ¬ (20000 : Int) < (q : Int) := by omega
        go_wp2_with fail
        refine (HIH.out _ _ q (HK.out.below (one_al _ _)) (by omega)).mono ?_
        rintro e2 w2 ⟨rfl, hb2⟩
        have HB2 := Lib.hid (bthen (bthen HB.out (one_al _ _)) hb2)
        have hr1 : ((min (q + vsize Y) 20001 : Nat) : Int) ≤ 20001 := by omega
        clear hb2
        go_wp2_with fail
        exact ⟨⟨k + 1, by omega, by go_num, by have h1 := Hq.out; have h2 := HST.out; congr 2; omega, HB2.out⟩, by simp [intOf]; omega⟩
    · have hlA : ¬ (k : Int) < (X.parts.length : Int) := by omega
      have hkk : X.parts.take k = X.parts := List.take_of_length_le (by omega)
      rw [hkk] at Hq
      clear hkk
      go_wp2_with fail
      go_ret
      exact ⟨ret_int (by have h1 := Hq.out; have h5 := vsize_eq X; omega), bthen (one_al _ _) HB.out⟩
set_option maxRecDepth 20000 in
set_option maxHeartbeats 2000000 in
theorem print_parts (m : Nat) : ∀ (X : N) (v : Value) (ok : Nat → Prop) (w : World) (s : Nat) (hv : RdN ok w v X) (hm : SizeOf.sizeOf X ≤ m) (hs : s ≤ 20000),
    Calls Tryd.prog 27 #[v, .int .i64 (s : Int)] w fun e w' => e = .returned (.int .i64 ((min (s + nsize X) 20001 : Nat) : Int)) ∧ Below w.heap.size w w' := by
  induction m using Nat.strongRecOn with
  | _ m ih =>
  intro X v ok w s hv hm hs
  obtain ⟨A, c, B, d, K, e, rfl, hn⟩ := hv.form
  have HV := Lib.hid hn.val
  have HL := Lib.hid hn.kids
  have hlen := hn.len
  have hcap := hn.cap
  have hmost := hn.most
  clear hn
  have hsz := fun (i : Nat) (hi : i < X.kids.length) => N.sz_kid (n := X) hi
  have Hsz := Lib.hid hsz
  have Hm := Lib.hid hm
  have Hih := Lib.hid ih
  have Hv := Lib.hid hv
  have hs0 : (0 : Int) ≤ (s : Int) := by omega
  have hs1 : (s : Int) ≤ 1000000 := by omega
  have Hs := Lib.hid hs
  clear hsz hm ih hv hs
  go_enter Tryd.func27, Tryd.ntmps27
  go_wp2_with fail
  refine (print_values (SizeOf.sizeOf X.val) X.val _ ok _ s (HV.out.below (one_al _ _)) (Nat.le_refl _) Hs.out).mono ?_
  rintro e1 w1 ⟨rfl, hb1⟩
  have HB := Lib.hid hb1
  obtain ⟨b0, b1, b2, b3, b4, b5, b6, b7, b8, b9⟩ := box10 hb1
  clear hb1
  obtain ⟨q0, hq0⟩ : ∃ q0 : Nat, q0 = (min (s + vsize X.val) 20001) := ⟨_, rfl⟩
  rw [← hq0]
  have Hq0 := Lib.hid hq0
  have hq1 : (q0 : Int) ≤ 1000001 := by have := Hs.out; omega
  have hq2 : (0 : Int) ≤ (q0 : Int) := by omega
  clear hq0
  go_wp2_with fail
  go_loopw [1, 14] (fun q i wr => ∃ k, k ≤ X.kids.length ∧ i = .int .i64 (k : Int) ∧ q = .int .i64 ((min (s + vsize X.val + nsizes (X.kids.take k)) 20001 : Nat) : Int) ∧ Below (w.alloc (.cells #[.int .i64 X.kind, .string ⟨X.text.toArray⟩, .int .i64 X.val.kind, .int .i64 X.val.num, .string ⟨X.val.str.toArray⟩, .slice A X.val.parts.length c, .slice B X.val.keys.length d, .bool X.flag, .slice K X.kids.length e, .int .i64 X.spot] 28)).heap.size (w.alloc (.cells #[.int .i64 X.kind, .string ⟨X.text.toArray⟩, .int .i64 X.val.kind, .int .i64 X.val.num, .string ⟨X.val.str.toArray⟩, .slice A X.val.parts.length c, .slice B X.val.keys.length d, .bool X.flag, .slice K X.kids.length e, .int .i64 X.spot] 28)) wr) (fun _ i _ => X.kids.length - (intOf i).toNat)
  case atStart => exact ⟨0, Nat.zero_le _, rfl, by rw [Hq0.out]; simp [nsizes], HB.out⟩
  case round =>
    obtain ⟨k, hk, rfl, rfl, hB⟩ := hrel
    have HB1 := Lib.hid hB
    obtain ⟨q, hq⟩ : ∃ q : Nat, q = min (s + vsize X.val + nsizes (X.kids.take k)) 20001 := ⟨_, rfl⟩
    rw [← hq]
    have Hq := Lib.hid hq
    have hq1 : (q : Int) ≤ 1000001 := by have := Hs.out; omega
    have hq2 : (0 : Int) ≤ (q : Int) := by omega
    clear b0 b1 b2 b3 b4 b5 b6 b7 b8 b9
    obtain ⟨b0, b1, b2, b3, b4, b5, b6, b7, b8, b9⟩ := box10 hB
    clear hB hq
    by_cases hlt : k < X.kids.length
    · have hlA : (k : Int) < (X.kids.length : Int) := by omega
      have h00 : (0 : Int) ≤ (k : Int) := by omega
      have hst := nsizes_step hlt
      have hle := nsizes_le X.kids (k + 1)
      have hih := fun (v : Value) (W : World) (s : Nat) (hv : RdN ok W v X.kids[k]) => Hih.out (SizeOf.sizeOf X.kids[k]) (Nat.lt_of_lt_of_le (Hsz.out k hlt) Hm.out) X.kids[k] v ok W s hv (Nat.le_refl _)
      have hps := nsize_pos X.kids[k]
      obtain ⟨g, off, A', c', B', d', K', e', rfl, _, hk, k0, k1, k2, k3, k4, k5, k6, k7, k8, k9⟩ := (HL.out.below (bthen (one_al _ _) HB1.out)).elem k hlt
      generalize X.kids[k] = Y at *
      have HK := Lib.hid hk
      have HST := Lib.hid hst
      have HLE := Lib.hid hle
      have HIH := Lib.hid hih
      have HPS := Lib.hid hps
      clear hk hst hle hih hps
      by_cases hbig : 20000 < q
      · have hbA : (20000 : Int) < (q : Int) := by omega
        go_wp2_with fail
        go_ret
        exact ⟨ret_int (by have h1 := Hq.out; have h2 := HST.out; have h3 := HLE.out; have h4 := HPS.out; have h5 := nsize_eq X; omega), bthen (bthen (one_al _ _) HB1.out) (one_al _ _)⟩
      · have hbA : ¬ (20000 : Int) < (q : Int) := by omega
        go_wp2_with fail
        refine (HIH.out _ _ q (HK.out.rd.below (one_al _ _)) (by omega)).mono ?_
        rintro e2 w2 ⟨rfl, hb2⟩
        have HB2 := Lib.hid (bthen (bthen HB1.out (one_al _ _)) hb2)
        have hr1 : ((min (q + nsize Y) 20001 : Nat) : Int) ≤ 20001 := by omega
        clear hb2
        go_wp2_with fail
        exact ⟨⟨k + 1, by omega, by go_num, by have h1 := Hq.out; have h2 := HST.out; congr 2; omega, HB2.out⟩, by simp [intOf]; omega⟩
    · have hlA : ¬ (k : Int) < (X.kids.length : Int) := by omega
      have hkk : X.kids.take k = X.kids := List.take_of_length_le (by omega)
      rw [hkk] at Hq
      clear hkk
      go_wp2_with fail
      go_ret
      exact ⟨ret_int (by have h1 := Hq.out; have h5 := nsize_eq X; omega), bthen (one_al _ _) HB1.out⟩
set_option maxRecDepth 20000 in
set_option maxHeartbeats 2000000 in
theorem ref_values (m : Nat) : ∀ (X : V) (v : Value) (ok : Nat → Prop) (w : World) (s : Nat) (hv : RdV ok w v X) (hm : SizeOf.sizeOf X ≤ m) (hs : s ≤ 1000000),
    Calls Tryd.prog 49 #[v, .int .i64 (s : Int)] w fun e w' => e = .returned (.int .i64 ((min (vsize X) (s + 1) : Nat) : Int)) ∧ Below w.heap.size w w' := by
  induction m using Nat.strongRecOn with
  | _ m ih =>
  intro X v ok w s hv hm hs
  obtain ⟨_, _, _, lv, kv, hvv, _, hls, _⟩ := hv.open
  obtain ⟨A, c, B, d, rfl, _⟩ := hv.form
  injection hvv with hvv
  simp only [Array.mk.injEq, List.cons.injEq, and_true, true_and] at hvv
  obtain ⟨rfl, rfl⟩ := hvv
  have HL := Lib.hid hls
  clear hls
  have hsz := fun (i : Nat) (hi : i < X.parts.length) => V.sz_part (x := X) hi
  have Hsz := Lib.hid hsz
  have Hm := Lib.hid hm
  have Hih := Lib.hid ih
  have Hv := Lib.hid hv
  have hs0 : (0 : Int) ≤ (s : Int) := by omega
  have hs1 : (s : Int) ≤ 1000000 := by omega
  have Hs := Lib.hid hs
  clear hsz hm ih hv hs
  go_enter Tryd.func49, Tryd.ntmps49
  go_wp2_with fail
  go_loopw [5, 6] (fun q i wr => ∃ k, k ≤ X.parts.length ∧ i = .int .i64 (k : Int) ∧ q = .int .i64 ((min (1 + vsizes (X.parts.take k)) (s + 1) : Nat) : Int) ∧ Below (w.alloc (.cells #[.int .i64 X.kind, .int .i64 X.num, .string ⟨X.str.toArray⟩, .slice A X.parts.length c, .slice B X.keys.length d] 25)).heap.size (w.alloc (.cells #[.int .i64 X.kind, .int .i64 X.num, .string ⟨X.str.toArray⟩, .slice A X.parts.length c, .slice B X.keys.length d] 25)) wr) (fun _ i _ => X.parts.length - (intOf i).toNat)
  case atStart => exact ⟨0, Nat.zero_le _, rfl, by have := Hs.out; simp [vsizes]; try omega, Below.refl _ _⟩
  case round =>
    obtain ⟨k, hk, rfl, rfl, hB⟩ := hrel
    have HB := Lib.hid hB
    obtain ⟨q, hq⟩ : ∃ q : Nat, q = min (1 + vsizes (X.parts.take k)) (s + 1) := ⟨_, rfl⟩
    rw [← hq]
    have Hq := Lib.hid hq
    have hq1 : (q : Int) ≤ 1000001 := by have := Hs.out; omega
    have hq2 : (0 : Int) ≤ (q : Int) := by omega
    obtain ⟨b0, b1, b2, b3, b4⟩ := boxv5 hB
    clear hB hq
    by_cases hlt : k < X.parts.length
    · have hlA : (k : Int) < (X.parts.length : Int) := by omega
      have h00 : (0 : Int) ≤ (k : Int) := by omega
      have hst := vsizes_step hlt
      have hle := vsizes_le X.parts (k + 1)
      have hih := fun (v : Value) (W : World) (s : Nat) (hv : RdV ok W v X.parts[k]) => Hih.out (SizeOf.sizeOf X.parts[k]) (Nat.lt_of_lt_of_le (Hsz.out k hlt) Hm.out) X.parts[k] v ok W s hv (Nat.le_refl _)
      have hps := vsize_pos X.parts[k]
      obtain ⟨g, off, A', c', B', d', rfl, _, hk, k0, k1, k2, k3, k4⟩ := (HL.out.below (bthen (one_al _ _) HB.out)).elem k hlt
      generalize X.parts[k] = Y at *
      have HK := Lib.hid hk
      have HST := Lib.hid hst
      have HLE := Lib.hid hle
      have HIH := Lib.hid hih
      have HPS := Lib.hid hps
      clear hk hst hle hih hps
      by_cases hbig : q ≤ s
      · have hbA : (q : Int) ≤ (s : Int) := by omega
        have hsub : (s : Int) - (q : Int) = ((s - q : Nat) : Int) := by omega
        go_wp2_with fail
        try rw [hsub]
        refine (HIH.out _ _ (s - q) (HK.out) (by have := Hs.out; omega)).mono ?_
        rintro e2 w2 ⟨rfl, hb2⟩
        have HB2 := Lib.hid (bthen HB.out hb2)
        have hr1 : ((min (vsize Y) (s - q + 1) : Nat) : Int) ≤ 1000001 := by have := Hs.out; omega
        have hr2 : (0 : Int) ≤ ((min (vsize Y) (s - q + 1) : Nat) : Int) := by omega
        clear hb2
        go_wp2_with fail
        exact ⟨⟨k + 1, by omega, by go_num, by have h1 := Hq.out; have h2 := HST.out; congr 1; omega, HB2.out⟩, by simp [intOf]; omega⟩
      · have hbA : ¬ (q : Int) ≤ (s : Int) := by omega
        go_wp2_with fail
        go_ret
        exact ⟨ret_int (by have h1 := Hq.out; have h2 := HST.out; have h3 := HLE.out; have h4 := HPS.out; have h5 := vsize_eq X; omega), bthen (one_al _ _) HB.out⟩
    · have hlA : ¬ (k : Int) < (X.parts.length : Int) := by omega
      have hkk : X.parts.take k = X.parts := List.take_of_length_le (by omega)
      rw [hkk] at Hq
      clear hkk
      go_wp2_with fail
      go_ret
      exact ⟨ret_int (by have h1 := Hq.out; have h5 := vsize_eq X; omega), bthen (one_al _ _) HB.out⟩
set_option maxRecDepth 20000 in
set_option maxHeartbeats 2000000 in
theorem ref_parts (m : Nat) : ∀ (X : N) (v : Value) (ok : Nat → Prop) (w : World) (s : Nat) (hv : RdN ok w v X) (hm : SizeOf.sizeOf X ≤ m) (hs : s ≤ 1000000),
    Calls Tryd.prog 30 #[v, .int .i64 (s : Int)] w fun e w' => e = .returned (.int .i64 ((min (nsize X) (s + 1) : Nat) : Int)) ∧ Below w.heap.size w w' := by
  induction m using Nat.strongRecOn with
  | _ m ih =>
  intro X v ok w s hv hm hs
  obtain ⟨A, c, B, d, K, e, rfl, hn⟩ := hv.form
  have HV := Lib.hid hn.val
  have HL := Lib.hid hn.kids
  have hlen := hn.len
  have hcap := hn.cap
  have hmost := hn.most
  clear hn
  have hsz := fun (i : Nat) (hi : i < X.kids.length) => N.sz_kid (n := X) hi
  have Hsz := Lib.hid hsz
  have Hm := Lib.hid hm
  have Hih := Lib.hid ih
  have Hv := Lib.hid hv
  have hs0 : (0 : Int) ≤ (s : Int) := by omega
  have hs1 : (s : Int) ≤ 1000000 := by omega
  have Hs := Lib.hid hs
  clear hsz hm ih hv hs
  go_enter Tryd.func30, Tryd.ntmps30
  go_wp2_with fail
  refine (ref_values (SizeOf.sizeOf X.val) X.val _ ok _ s (HV.out.below (one_al _ _)) (Nat.le_refl _) Hs.out).mono ?_
  rintro e1 w1 ⟨rfl, hb1⟩
  have HB := Lib.hid hb1
  obtain ⟨b0, b1, b2, b3, b4, b5, b6, b7, b8, b9⟩ := box10 hb1
  clear hb1
  obtain ⟨q0, hq0⟩ : ∃ q0 : Nat, q0 = (min (vsize X.val) (s + 1)) := ⟨_, rfl⟩
  rw [← hq0]
  have Hq0 := Lib.hid hq0
  have hq1 : (q0 : Int) ≤ 1000001 := by have := Hs.out; omega
  have hq2 : (0 : Int) ≤ (q0 : Int) := by omega
  clear hq0
  go_wp2_with fail
  go_loopw [5, 6] (fun q i wr => ∃ k, k ≤ X.kids.length ∧ i = .int .i64 (k : Int) ∧ q = .int .i64 ((min (vsize X.val + nsizes (X.kids.take k)) (s + 1) : Nat) : Int) ∧ Below (w.alloc (.cells #[.int .i64 X.kind, .string ⟨X.text.toArray⟩, .int .i64 X.val.kind, .int .i64 X.val.num, .string ⟨X.val.str.toArray⟩, .slice A X.val.parts.length c, .slice B X.val.keys.length d, .bool X.flag, .slice K X.kids.length e, .int .i64 X.spot] 28)).heap.size (w.alloc (.cells #[.int .i64 X.kind, .string ⟨X.text.toArray⟩, .int .i64 X.val.kind, .int .i64 X.val.num, .string ⟨X.val.str.toArray⟩, .slice A X.val.parts.length c, .slice B X.val.keys.length d, .bool X.flag, .slice K X.kids.length e, .int .i64 X.spot] 28)) wr) (fun _ i _ => X.kids.length - (intOf i).toNat)
  case atStart => exact ⟨0, Nat.zero_le _, rfl, by rw [Hq0.out]; simp [nsizes], HB.out⟩
  case round =>
    obtain ⟨k, hk, rfl, rfl, hB⟩ := hrel
    have HB1 := Lib.hid hB
    obtain ⟨q, hq⟩ : ∃ q : Nat, q = min (vsize X.val + nsizes (X.kids.take k)) (s + 1) := ⟨_, rfl⟩
    rw [← hq]
    have Hq := Lib.hid hq
    have hq1 : (q : Int) ≤ 1000001 := by have := Hs.out; omega
    have hq2 : (0 : Int) ≤ (q : Int) := by omega
    clear b0 b1 b2 b3 b4 b5 b6 b7 b8 b9
    obtain ⟨b0, b1, b2, b3, b4, b5, b6, b7, b8, b9⟩ := box10 hB
    clear hB hq
    by_cases hlt : k < X.kids.length
    · have hlA : (k : Int) < (X.kids.length : Int) := by omega
      have h00 : (0 : Int) ≤ (k : Int) := by omega
      have hst := nsizes_step hlt
      have hle := nsizes_le X.kids (k + 1)
      have hih := fun (v : Value) (W : World) (s : Nat) (hv : RdN ok W v X.kids[k]) => Hih.out (SizeOf.sizeOf X.kids[k]) (Nat.lt_of_lt_of_le (Hsz.out k hlt) Hm.out) X.kids[k] v ok W s hv (Nat.le_refl _)
      have hps := nsize_pos X.kids[k]
      obtain ⟨g, off, A', c', B', d', K', e', rfl, _, hk, k0, k1, k2, k3, k4, k5, k6, k7, k8, k9⟩ := (HL.out.below (bthen (one_al _ _) HB1.out)).elem k hlt
      generalize X.kids[k] = Y at *
      have HK := Lib.hid hk
      have HST := Lib.hid hst
      have HLE := Lib.hid hle
      have HIH := Lib.hid hih
      have HPS := Lib.hid hps
      clear hk hst hle hih hps
      by_cases hbig : q ≤ s
      · have hbA : (q : Int) ≤ (s : Int) := by omega
        have hsub : (s : Int) - (q : Int) = ((s - q : Nat) : Int) := by omega
        go_wp2_with fail
        try rw [hsub]
        refine (HIH.out _ _ (s - q) (HK.out.rd) (by have := Hs.out; omega)).mono ?_
        rintro e2 w2 ⟨rfl, hb2⟩
        have HB2 := Lib.hid (bthen HB1.out hb2)
        have hr1 : ((min (nsize Y) (s - q + 1) : Nat) : Int) ≤ 1000001 := by have := Hs.out; omega
        have hr2 : (0 : Int) ≤ ((min (nsize Y) (s - q + 1) : Nat) : Int) := by omega
        clear hb2
        go_wp2_with fail
        exact ⟨⟨k + 1, by omega, by go_num, by have h1 := Hq.out; have h2 := HST.out; congr 1; omega, HB2.out⟩, by simp [intOf]; omega⟩
      · have hbA : ¬ (q : Int) ≤ (s : Int) := by omega
        go_wp2_with fail
        go_ret
        exact ⟨ret_int (by have h1 := Hq.out; have h2 := HST.out; have h3 := HLE.out; have h4 := HPS.out; have h5 := nsize_eq X; omega), bthen (one_al _ _) HB1.out⟩
    · have hlA : ¬ (k : Int) < (X.kids.length : Int) := by omega
      have hkk : X.kids.take k = X.kids := List.take_of_length_le (by omega)
      rw [hkk] at Hq
      clear hkk
      go_wp2_with fail
      go_ret
      exact ⟨ret_int (by have h1 := Hq.out; have h5 := nsize_eq X; omega), bthen (one_al _ _) HB1.out⟩
set_option maxRecDepth 20000 in
set_option maxHeartbeats 2000000 in
theorem law_many (m : Nat) : ∀ (X : V) (v : Value) (ok : Nat → Prop) (w : World) (s : Nat) (hv : RdV ok w v X) (hm : SizeOf.sizeOf X ≤ m) (hs : s ≤ 1000000),
    Calls Tryd.prog 32 #[v, .int .i64 (s : Int)] w fun e w' => e = .returned (.int .i64 ((min (vsize X) (s + 1) : Nat) : Int)) ∧ Below w.heap.size w w' := by
  induction m using Nat.strongRecOn with
  | _ m ih =>
  intro X v ok w s hv hm hs
  obtain ⟨_, _, _, lv, kv, hvv, _, hls, _⟩ := hv.open
  obtain ⟨A, c, B, d, rfl, _⟩ := hv.form
  injection hvv with hvv
  simp only [Array.mk.injEq, List.cons.injEq, and_true, true_and] at hvv
  obtain ⟨rfl, rfl⟩ := hvv
  have HL := Lib.hid hls
  clear hls
  have hsz := fun (i : Nat) (hi : i < X.parts.length) => V.sz_part (x := X) hi
  have Hsz := Lib.hid hsz
  have Hm := Lib.hid hm
  have Hih := Lib.hid ih
  have Hv := Lib.hid hv
  have hs0 : (0 : Int) ≤ (s : Int) := by omega
  have hs1 : (s : Int) ≤ 1000000 := by omega
  have Hs := Lib.hid hs
  clear hsz hm ih hv hs
  go_enter Tryd.func32, Tryd.ntmps32
  go_wp2_with fail
  go_loopw [5, 6] (fun q i wr => ∃ k, k ≤ X.parts.length ∧ i = .int .i64 (k : Int) ∧ q = .int .i64 ((min (1 + vsizes (X.parts.take k)) (s + 1) : Nat) : Int) ∧ Below (w.alloc (.cells #[.int .i64 X.kind, .int .i64 X.num, .string ⟨X.str.toArray⟩, .slice A X.parts.length c, .slice B X.keys.length d] 25)).heap.size (w.alloc (.cells #[.int .i64 X.kind, .int .i64 X.num, .string ⟨X.str.toArray⟩, .slice A X.parts.length c, .slice B X.keys.length d] 25)) wr) (fun _ i _ => X.parts.length - (intOf i).toNat)
  case atStart => exact ⟨0, Nat.zero_le _, rfl, by have := Hs.out; simp [vsizes]; try omega, Below.refl _ _⟩
  case round =>
    obtain ⟨k, hk, rfl, rfl, hB⟩ := hrel
    have HB := Lib.hid hB
    obtain ⟨q, hq⟩ : ∃ q : Nat, q = min (1 + vsizes (X.parts.take k)) (s + 1) := ⟨_, rfl⟩
    rw [← hq]
    have Hq := Lib.hid hq
    have hq1 : (q : Int) ≤ 1000001 := by have := Hs.out; omega
    have hq2 : (0 : Int) ≤ (q : Int) := by omega
    obtain ⟨b0, b1, b2, b3, b4⟩ := boxv5 hB
    clear hB hq
    by_cases hlt : k < X.parts.length
    · have hlA : (k : Int) < (X.parts.length : Int) := by omega
      have h00 : (0 : Int) ≤ (k : Int) := by omega
      have hst := vsizes_step hlt
      have hle := vsizes_le X.parts (k + 1)
      have hih := fun (v : Value) (W : World) (s : Nat) (hv : RdV ok W v X.parts[k]) => Hih.out (SizeOf.sizeOf X.parts[k]) (Nat.lt_of_lt_of_le (Hsz.out k hlt) Hm.out) X.parts[k] v ok W s hv (Nat.le_refl _)
      have hps := vsize_pos X.parts[k]
      obtain ⟨g, off, A', c', B', d', rfl, _, hk, k0, k1, k2, k3, k4⟩ := (HL.out.below (bthen (one_al _ _) HB.out)).elem k hlt
      generalize X.parts[k] = Y at *
      have HK := Lib.hid hk
      have HST := Lib.hid hst
      have HLE := Lib.hid hle
      have HIH := Lib.hid hih
      have HPS := Lib.hid hps
      clear hk hst hle hih hps
      by_cases hbig : q ≤ s
      · have hbA : (q : Int) ≤ (s : Int) := by omega
        have hsub : (s : Int) - (q : Int) = ((s - q : Nat) : Int) := by omega
        go_wp2_with fail
        try rw [hsub]
        refine (HIH.out _ _ (s - q) (HK.out) (by have := Hs.out; omega)).mono ?_
        rintro e2 w2 ⟨rfl, hb2⟩
        have HB2 := Lib.hid (bthen HB.out hb2)
        have hr1 : ((min (vsize Y) (s - q + 1) : Nat) : Int) ≤ 1000001 := by have := Hs.out; omega
        have hr2 : (0 : Int) ≤ ((min (vsize Y) (s - q + 1) : Nat) : Int) := by omega
        clear hb2
        go_wp2_with fail
        exact ⟨⟨k + 1, by omega, by go_num, by have h1 := Hq.out; have h2 := HST.out; congr 1; omega, HB2.out⟩, by simp [intOf]; omega⟩
      · have hbA : ¬ (q : Int) ≤ (s : Int) := by omega
        go_wp2_with fail
        go_ret
        exact ⟨ret_int (by have h1 := Hq.out; have h2 := HST.out; have h3 := HLE.out; have h4 := HPS.out; have h5 := vsize_eq X; omega), bthen (one_al _ _) HB.out⟩
    · have hlA : ¬ (k : Int) < (X.parts.length : Int) := by omega
      have hkk : X.parts.take k = X.parts := List.take_of_length_le (by omega)
      rw [hkk] at Hq
      clear hkk
      go_wp2_with fail
      go_ret
      exact ⟨ret_int (by have h1 := Hq.out; have h5 := vsize_eq X; omega), bthen (one_al _ _) HB.out⟩
set_option maxRecDepth 20000 in
set_option maxHeartbeats 2000000 in
theorem law_nodes (m : Nat) : ∀ (X : N) (v : Value) (ok : Nat → Prop) (w : World) (s : Nat) (hv : RdN ok w v X) (hm : SizeOf.sizeOf X ≤ m) (hs : s ≤ 1000000),
    Calls Tryd.prog 17 #[v, .int .i64 (s : Int)] w fun e w' => e = .returned (.int .i64 ((min (nsize X) (s + 1) : Nat) : Int)) ∧ Below w.heap.size w w' := by
  induction m using Nat.strongRecOn with
  | _ m ih =>
  intro X v ok w s hv hm hs
  obtain ⟨A, c, B, d, K, e, rfl, hn⟩ := hv.form
  have HV := Lib.hid hn.val
  have HL := Lib.hid hn.kids
  have hlen := hn.len
  have hcap := hn.cap
  have hmost := hn.most
  clear hn
  have hsz := fun (i : Nat) (hi : i < X.kids.length) => N.sz_kid (n := X) hi
  have Hsz := Lib.hid hsz
  have Hm := Lib.hid hm
  have Hih := Lib.hid ih
  have Hv := Lib.hid hv
  have hs0 : (0 : Int) ≤ (s : Int) := by omega
  have hs1 : (s : Int) ≤ 1000000 := by omega
  have Hs := Lib.hid hs
  clear hsz hm ih hv hs
  go_enter Tryd.func17, Tryd.ntmps17
  go_wp2_with fail
  refine (law_many (SizeOf.sizeOf X.val) X.val _ ok _ s (HV.out.below (one_al _ _)) (Nat.le_refl _) Hs.out).mono ?_
  rintro e1 w1 ⟨rfl, hb1⟩
  have HB := Lib.hid hb1
  obtain ⟨b0, b1, b2, b3, b4, b5, b6, b7, b8, b9⟩ := box10 hb1
  clear hb1
  obtain ⟨q0, hq0⟩ : ∃ q0 : Nat, q0 = (min (vsize X.val) (s + 1)) := ⟨_, rfl⟩
  rw [← hq0]
  have Hq0 := Lib.hid hq0
  have hq1 : (q0 : Int) ≤ 1000001 := by have := Hs.out; omega
  have hq2 : (0 : Int) ≤ (q0 : Int) := by omega
  clear hq0
  go_wp2_with fail
  go_loopw [5, 6] (fun q i wr => ∃ k, k ≤ X.kids.length ∧ i = .int .i64 (k : Int) ∧ q = .int .i64 ((min (vsize X.val + nsizes (X.kids.take k)) (s + 1) : Nat) : Int) ∧ Below (w.alloc (.cells #[.int .i64 X.kind, .string ⟨X.text.toArray⟩, .int .i64 X.val.kind, .int .i64 X.val.num, .string ⟨X.val.str.toArray⟩, .slice A X.val.parts.length c, .slice B X.val.keys.length d, .bool X.flag, .slice K X.kids.length e, .int .i64 X.spot] 28)).heap.size (w.alloc (.cells #[.int .i64 X.kind, .string ⟨X.text.toArray⟩, .int .i64 X.val.kind, .int .i64 X.val.num, .string ⟨X.val.str.toArray⟩, .slice A X.val.parts.length c, .slice B X.val.keys.length d, .bool X.flag, .slice K X.kids.length e, .int .i64 X.spot] 28)) wr) (fun _ i _ => X.kids.length - (intOf i).toNat)
  case atStart => exact ⟨0, Nat.zero_le _, rfl, by rw [Hq0.out]; simp [nsizes], HB.out⟩
  case round =>
    obtain ⟨k, hk, rfl, rfl, hB⟩ := hrel
    have HB1 := Lib.hid hB
    obtain ⟨q, hq⟩ : ∃ q : Nat, q = min (vsize X.val + nsizes (X.kids.take k)) (s + 1) := ⟨_, rfl⟩
    rw [← hq]
    have Hq := Lib.hid hq
    have hq1 : (q : Int) ≤ 1000001 := by have := Hs.out; omega
    have hq2 : (0 : Int) ≤ (q : Int) := by omega
    clear b0 b1 b2 b3 b4 b5 b6 b7 b8 b9
    obtain ⟨b0, b1, b2, b3, b4, b5, b6, b7, b8, b9⟩ := box10 hB
    clear hB hq
    by_cases hlt : k < X.kids.length
    · have hlA : (k : Int) < (X.kids.length : Int) := by omega
      have h00 : (0 : Int) ≤ (k : Int) := by omega
      have hst := nsizes_step hlt
      have hle := nsizes_le X.kids (k + 1)
      have hih := fun (v : Value) (W : World) (s : Nat) (hv : RdN ok W v X.kids[k]) => Hih.out (SizeOf.sizeOf X.kids[k]) (Nat.lt_of_lt_of_le (Hsz.out k hlt) Hm.out) X.kids[k] v ok W s hv (Nat.le_refl _)
      have hps := nsize_pos X.kids[k]
      obtain ⟨g, off, A', c', B', d', K', e', rfl, _, hk, k0, k1, k2, k3, k4, k5, k6, k7, k8, k9⟩ := (HL.out.below (bthen (one_al _ _) HB1.out)).elem k hlt
      generalize X.kids[k] = Y at *
      have HK := Lib.hid hk
      have HST := Lib.hid hst
      have HLE := Lib.hid hle
      have HIH := Lib.hid hih
      have HPS := Lib.hid hps
      clear hk hst hle hih hps
      by_cases hbig : q ≤ s
      · have hbA : (q : Int) ≤ (s : Int) := by omega
        have hsub : (s : Int) - (q : Int) = ((s - q : Nat) : Int) := by omega
        go_wp2_with fail
        try rw [hsub]
        refine (HIH.out _ _ (s - q) (HK.out.rd) (by have := Hs.out; omega)).mono ?_
        rintro e2 w2 ⟨rfl, hb2⟩
        have HB2 := Lib.hid (bthen HB1.out hb2)
        have hr1 : ((min (nsize Y) (s - q + 1) : Nat) : Int) ≤ 1000001 := by have := Hs.out; omega
        have hr2 : (0 : Int) ≤ ((min (nsize Y) (s - q + 1) : Nat) : Int) := by omega
        clear hb2
        go_wp2_with fail
        exact ⟨⟨k + 1, by omega, by go_num, by have h1 := Hq.out; have h2 := HST.out; congr 1; omega, HB2.out⟩, by simp [intOf]; omega⟩
      · have hbA : ¬ (q : Int) ≤ (s : Int) := by omega
        go_wp2_with fail
        go_ret
        exact ⟨ret_int (by have h1 := Hq.out; have h2 := HST.out; have h3 := HLE.out; have h4 := HPS.out; have h5 := nsize_eq X; omega), bthen (one_al _ _) HB1.out⟩
    · have hlA : ¬ (k : Int) < (X.kids.length : Int) := by omega
      have hkk : X.kids.take k = X.kids := List.take_of_length_le (by omega)
      rw [hkk] at Hq
      clear hkk
      go_wp2_with fail
      go_ret
      exact ⟨ret_int (by have h1 := Hq.out; have h5 := nsize_eq X; omega), bthen (one_al _ _) HB1.out⟩
set_option maxHeartbeats 1000000 in
theorem print_fits (X : N) (v : Value) (ok : Nat → Prop) (w : World) (hv : RdN ok w v X) : Calls Tryd.prog 13 #[v] w fun e w' => e = .returned (.bool (decide (nsize X ≤ 20000))) ∧ Below w.heap.size w w' := by
  obtain ⟨A, c, B, d, K, e, rfl, hn⟩ := hv.form
  have Hv := Lib.hid hv
  clear hv hn
  go_enter Tryd.func13, Tryd.ntmps13
  go_wp2_with fail
  refine (print_parts (SizeOf.sizeOf X) X _ ok _ 0 (Hv.out.below (one_al _ _)) (Nat.le_refl _) (by decide)).mono ?_
  rintro e1 w1 ⟨rfl, hb1⟩
  have HB := Lib.hid (bthen (one_al _ _) hb1)
  clear hb1
  go_wp2_with fail
  go_ret
  exact ⟨ret_bool (by rw [Bool.eq_iff_iff]; simp only [decide_eq_true_eq]; omega), HB.out⟩
set_option maxHeartbeats 1000000 in
theorem ref_fits (X : N) (v : Value) (ok : Nat → Prop) (w : World) (hv : RdN ok w v X) : Calls Tryd.prog 15 #[v] w fun e w' => e = .returned (.bool (decide (nsize X ≤ 20000))) ∧ Below w.heap.size w w' := by
  obtain ⟨A, c, B, d, K, e, rfl, hn⟩ := hv.form
  have Hv := Lib.hid hv
  clear hv hn
  go_enter Tryd.func15, Tryd.ntmps15
  go_wp2_with fail
  refine (ref_parts (SizeOf.sizeOf X) X _ ok _ 20000 (Hv.out.below (one_al _ _)) (Nat.le_refl _) (by decide)).mono ?_
  rintro e1 w1 ⟨rfl, hb1⟩
  have HB := Lib.hid (bthen (one_al _ _) hb1)
  clear hb1
  go_wp2_with fail
  go_ret
  exact ⟨ret_bool (by rw [Bool.eq_iff_iff]; simp only [decide_eq_true_eq]; omega), HB.out⟩
set_option maxHeartbeats 1000000 in
theorem law_few (X : V) (v : Value) (ok : Nat → Prop) (w : World) (hv : RdV ok w v X) : Calls Tryd.prog 33 #[v] w fun e w' => e = .returned (.bool (decide (vsize X ≤ 5000))) ∧ Below w.heap.size w w' := by
  obtain ⟨A, c, B, d, rfl, _⟩ := hv.form
  have Hv := Lib.hid hv
  clear hv
  go_enter Tryd.func33, Tryd.ntmps33
  go_wp2_with fail
  refine (law_many (SizeOf.sizeOf X) X _ ok _ 5000 (Hv.out.below (one_al _ _)) (Nat.le_refl _) (by decide)).mono ?_
  rintro e1 w1 ⟨rfl, hb1⟩
  have HB := Lib.hid (bthen (one_al _ _) hb1)
  clear hb1
  go_wp2_with fail
  go_ret
  exact ⟨ret_bool (by rw [Bool.eq_iff_iff]; simp only [decide_eq_true_eq]; omega), HB.out⟩
set_option maxHeartbeats 1000000 in
theorem law_slim (X : N) (v : Value) (ok : Nat → Prop) (w : World) (hv : RdN ok w v X) : Calls Tryd.prog 8 #[v] w fun e w' => e = .returned (.bool (decide (nsize X ≤ 40000))) ∧ Below w.heap.size w w' := by
  obtain ⟨A, c, B, d, K, e, rfl, hn⟩ := hv.form
  have Hv := Lib.hid hv
  clear hv hn
  go_enter Tryd.func8, Tryd.ntmps8
  go_wp2_with fail
  refine (law_nodes (SizeOf.sizeOf X) X _ ok _ 40000 (Hv.out.below (one_al _ _)) (Nat.le_refl _) (by decide)).mono ?_
  rintro e1 w1 ⟨rfl, hb1⟩
  have HB := Lib.hid (bthen (one_al _ _) hb1)
  clear hb1
  go_wp2_with fail
  go_ret
  exact ⟨ret_bool (by rw [Bool.eq_iff_iff]; simp only [decide_eq_true_eq]; omega), HB.out⟩
end Go.Proofs.YthlfeiiolafonaaDoor
