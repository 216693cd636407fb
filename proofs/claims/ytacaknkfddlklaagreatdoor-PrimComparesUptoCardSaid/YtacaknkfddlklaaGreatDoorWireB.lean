/- Contract of wire.put at rows and records. Contract of wire.put at records. Contracts of wire.put at every right value, of wire.Put behind nothing, of wire.Encode. Contracts of wire.Put behind nothing and of wire.Encode. -/
import Derived.Test.YtacaknkfddlklaaGreatDoorEncB
import Derived.Deep.DeepCutAuto
import Derived.Test.YtacaknkfddlklaaGreatDoorRight
set_option linter.unusedVariables false
set_option linter.unusedSimpArgs false
namespace Go.Proofs.YtacaknkfddlklaaGreatDoor
open Go.RowKit Go.IntWalk

theorem encL_append : ∀ (a b : List V), encL (a ++ b) = encL a ++ encL b
  | [], b => by rw [encL]; rfl
  | x :: a, b => by rw [List.cons_append, encL, encL, encL_append a b, List.append_assoc]
theorem encR_append : ∀ (a b : List V) (ks : List (List UInt8)), encR (a ++ b) ks = encR a ks ++ encR b (ks.drop a.length)
  | [], b, ks => by rw [encR]; rfl
  | x :: a, b, ks => by rw [List.cons_append, encR, encR, encR_append a b ks.tail, List.length_cons, ← List.drop_one, List.drop_drop, Nat.add_comm 1]; simp only [List.append_assoc]
theorem encL_step {L : List V} {k : Nat} (h : k < L.length) : encL (L.take (k + 1)) = encL (L.take k) ++ encS L[k] := by
  rw [← List.take_append_getElem h, encL_append, encL, encL, List.append_nil]
theorem encR_step {L : List V} {ks : List (List UInt8)} {k : Nat} (h : k < L.length) (hk : k < ks.length) : encR (L.take (k + 1)) ks = encR (L.take k) ks ++ (uvar ks[k].length ++ ks[k] ++ encS L[k]) := by
  have h1 : (ks.drop k).headD [] = ks[k] := by rw [List.drop_eq_getElem_cons hk]; rfl
  rw [← List.take_append_getElem h, encR_append, List.length_take_of_le (Nat.le_of_lt h), encR, encR, List.append_nil, h1]
theorem encL_le {L : List V} (k : Nat) : (encL (L.take k)).length ≤ (encL L).length := by
  have := congrArg List.length (encL_append (L.take k) (L.drop k))
  rw [List.take_append_drop, List.length_append] at this
  omega
theorem encR_le {L : List V} (ks : List (List UInt8)) (k : Nat) : (encR (L.take k) ks).length ≤ (encR L ks).length := by
  have := congrArg List.length (encR_append (L.take k) (L.drop k) ks)
  rw [List.take_append_drop, List.length_append] at this
  omega
/-- within put: the bytes so far -/
def PutSt (ok : Nat → Prop) (w : World) (o : Obj) (l : List UInt8) (v : Value) (wx : World) : Prop := OwnB (okb ok w.heap.size) wx v l ∧ Fr (okb ok w.heap.size) (w.alloc o) wx
theorem put_mid {ok : Nat → Prop} {w w2 w3 : World} {o : Obj} {v : Value} {l : List UInt8} (h : Fr (okb ok w.heap.size) (w.alloc o) w2) (hn : ∀ k, w.heap.size ≤ k → ok k) (h3 : OwnB (newB w2.heap.size) w3 v l) (h4 : Below w2.heap.size w2 w3) : PutSt ok w o l v w3 :=
  ⟨OwnR.mono h3 fun k _ hk => by have := h.size; simp only [newB] at hk; simp at this; exact ⟨hn k (by omega), by omega⟩, h.below h4⟩
theorem PutSt.fin {ok : Nat → Prop} {w wx : World} {o : Obj} {l : List UInt8} {v : Value} (h : PutSt ok w o l v wx) : PutPost ok w l (.returned v) wx := ⟨v, rfl, OwnR.mono h.1 fun _ _ h => h.1, okb_fr h.2⟩
theorem PutSt.alloc {ok : Nat → Prop} {w wx : World} {o : Obj} {l : List UInt8} {v : Value} (h : PutSt ok w o l v wx) (x : Obj) : PutSt ok w o l v (wx.alloc x) := ⟨OwnR.alloc h.1 x, h.2.alloc x⟩
theorem PutSt.drew {ok : Nat → Prop} {w wx : World} {o : Obj} {l : List UInt8} {v : Value} (h : PutSt ok w o l v wx) : PutSt ok w o l v wx.drew := ⟨OwnR.drew h.1, h.2.drew⟩
theorem PutSt.new {ok : Nat → Prop} {w wx : World} {o : Obj} {l : List UInt8} {v : Value} (h : PutSt ok w o l v wx) (hn : ∀ k, w.heap.size ≤ k → ok k) : ∀ k, wx.heap.size ≤ k → okb ok w.heap.size k := fun k hk => by
  have := h.2.size
  simp at this
  exact ⟨hn k (by omega), by omega⟩
/-- behind a call of put itself -/
theorem PutSt.put {ok : Nat → Prop} {w wx w3 : World} {o : Obj} {l l' : List UInt8} {v r : Value} (h : PutSt ok w o l v wx) (h3 : OwnB (okb ok w.heap.size) w3 r l') (h4 : Fr (okb ok w.heap.size) wx w3) : PutSt ok w o l' r w3 := ⟨h3, h.2.trans h4⟩
/-- behind a call that makes a new row -/
theorem PutSt.mk {ok : Nat → Prop} {w wx w3 : World} {o : Obj} {l l' : List UInt8} {v r : Value} (h : PutSt ok w o l v wx) (hn : ∀ k, w.heap.size ≤ k → ok k) (h3 : OwnB (newB wx.heap.size) w3 r l') (h4 : Below wx.heap.size wx w3) : PutSt ok w o l' r w3 := put_mid h.2 hn h3 h4
theorem PutSt.cells {ok : Nat → Prop} {w wx : World} {c0 c1 c2 c3 c4 : Value} {e : TypeId} {l : List UInt8} {v : Value} (h : PutSt ok w (.cells #[c0, c1, c2, c3, c4] e) l v wx) :
    wx.cell? ⟨w.heap.size, 3, none⟩ = some c3 ∧ wx.cell? ⟨w.heap.size, 4, none⟩ = some c4 := (box_cell h.2).2.2.2
/-- the contract of put at one value -/
def PutOK (X : V) : Prop := ∀ (v b : Value) (l : List UInt8) (ok okv : Nat → Prop) (w : World), RdV okv w v X → OwnB ok w b l → (∀ k, w.heap.size ≤ k → ok k) → (∀ k, okv k → ¬ ok k) → l.length + (encS X).length ≤ 90000 → Calls Tryz.prog 99 #[b, v] w (PutPost ok w (l ++ encS X))
set_option maxRecDepth 20000 in
set_option maxHeartbeats 900000 in
theorem put_row (L : List V) (hL : L.length ≤ 100000) (A B : Option Addr) (c d : Nat) (hc : L.length ≤ c) (hc2 : c ≤ 9223372036854775807) (l : List UInt8) (b : Value) (ok okv : Nat → Prop) (w : World) (hvs : RdVs okv w (.slice A L.length c) 0 L) (hb : OwnB ok w b l) (hnew : ∀ k, w.heap.size ≤ k → ok k) (hd : ∀ k, okv k → ¬ ok k)
    (hl : l.length + (5 :: (uvar L.length ++ encL L)).length ≤ 90000) (ih : ∀ j (h : j < L.length), PutOK L[j]) :
    Calls Tryz.prog 99 #[b, .agg #[.int .i64 4, .int .i64 0, .string ⟨#[]⟩, .slice A L.length c, .slice B 0 d]] w (PutPost ok w (l ++ 5 :: (uvar L.length ++ encL L))) := by
  have HWU := Lib.hid (show IntKind.u64.wrap (L.length : Int) = (L.length : Int) from u64_in _ (by omega))
  have HO := Lib.hid (OwnR.drew (OwnR.alloc (okb_own hb) (.cells #[.int .i64 4, .int .i64 0, .string ⟨#[]⟩, .slice A L.length c, .slice B 0 d] 25)) : OwnB (okb ok w.heap.size) _ b l)
  have HN := Lib.hid hnew
  have Hl := Lib.hid hl
  have Hvs := Lib.hid hvs
  have Hd := Lib.hid hd
  have Hih := Lib.hid ih
  clear hb hnew hl hvs hd ih
  go_enter Tryz.func99, Tryz.ntmps99
  go_wp2_with fail
  go_upto_region 9 with fail
  go_cut [0] (fun t0 wx => PutSt ok w (.cells #[.int .i64 4, .int .i64 0, .string ⟨#[]⟩, .slice A L.length c, .slice B 0 d] 25) (l ++ 5 :: uvar L.length) t0 wx)
  case first =>
    go_region_law (first
      | (refine stB_app _ 5 (.tmp 38) (.tmp 39) rfl rfl rfl (w.heap.size + 1) 1 rfl (by rw [← size_draw_alloc w (.cells #[.int .i64 4, .int .i64 0, .string ⟨#[]⟩, .slice A L.length c, .slice B 0 d] 25)]; exact cell_new _ _) (OwnR.alloc HO.out _) ((((Fr.refl (okb ok w.heap.size) (w.alloc (.cells #[.int .i64 4, .int .i64 0, .string ⟨#[]⟩, .slice A L.length c, .slice B 0 d] 25)))).drew).alloc _) (by have := Hl.out; omega) (fun k h => ⟨HN.out k (by simp at h; omega), by simp at h; omega⟩) ?_
         intro v2 w2 h1 h2
         have cc := (box_cell h2).2.2.2.1
         have H2 := Lib.hid h2
         have H1 := Lib.hid (RdBy.own h1)
         clear h1 h2)
      | (go_simp
         go_at_call 125
         rw [HWU.out]
         refine (num_PutUint L.length (by omega) (l ++ [5]) (by have := Hl.out; simp; omega) _ _ H1.out).mono ?_
         rintro e w3 ⟨v3, rfl, h3, h4⟩
         have H3 := Lib.hid (put_mid H2.out HN.out h3 h4)
         clear h3 h4
         go_simp))
    all_goals go_wp2_with fail
    all_goals go_meet
    all_goals exact (List.append_assoc l [5] _ ▸ H3.out : PutSt ok w _ (l ++ ([5] ++ uvar L.length)) _ _)
  case rest =>
    have HI := Lib.hid hcut
    have c3 := hcut.cells.1
    clear hcut
    go_wp2_with fail
    go_loopw [0, 49] (fun t0 i wr => ∃ k, k ≤ L.length ∧ i = .int .i64 (k : Int) ∧ PutSt ok w (.cells #[.int .i64 4, .int .i64 0, .string ⟨#[]⟩, .slice A L.length c, .slice B 0 d] 25) (l ++ 5 :: (uvar L.length ++ encL (L.take k))) t0 wr) (fun _ i _ => L.length - (intOf i).toNat)
    case atStart => exact ⟨0, Nat.zero_le _, rfl, by simpa [encL] using HI.out⟩
    case round =>
      obtain ⟨k, hk, rfl, hI⟩ := hrel
      have HI := Lib.hid hI
      clear hI
      by_cases hlt : k < L.length
      · have hlA : (k : Int) < (L.length : Int) := by omega
        have h00 : (0 : Int) ≤ (k : Int) := by omega
        obtain ⟨g, off, A', c', B', d', rfl, hog, hrd, e0, e1, e2, e3, e4⟩ := (Hvs.out.fr (okb_fr HI.out.2) (fun k _ h => Hd.out k h)).elem k hlt
        have hst := encL_step hlt
        have hle := encL_le (L := L) (k + 1)
        have hih := Hih.out k hlt
        generalize L[k] = X at *
        have HR := Lib.hid hrd
        have HST := Lib.hid hst
        have HLE := Lib.hid hle
        have HIH := Lib.hid hih
        clear hrd hst hle hih hog
        go_wp2_with fail
        refine (HIH.out _ _ (l ++ 5 :: (uvar L.length ++ encL (L.take k))) (okb ok w.heap.size) okv _ (HR.out.below (one_b _ _)) (OwnR.alloc HI.out.1 _) ((HI.out.alloc _).new HN.out) (fun k h h2 => Hd.out k h h2.1) ?_).mono ?_
        · have h1 := HLE.out
          have h2 := Hl.out
          rw [HST.out] at h1
          simp only [List.length_append, List.length_cons] at h1 h2 ⊢
          omega
        rintro e w3 ⟨r, rfl, h3, h4⟩
        have HP := Lib.hid ((HI.out.alloc _).put h3 h4)
        clear h3 h4
        go_wp2_with fail
        exact ⟨⟨k + 1, by omega, by go_num, by rw [HST.out]; simpa [List.append_assoc] using HP.out⟩, by simp [intOf]; omega⟩
      · have hlA : ¬ (k : Int) < (L.length : Int) := by omega
        have hkk : L.take k = L := List.take_of_length_le (by omega)
        rw [hkk] at HI
        clear hkk
        go_wp2_with fail
        go_ret
        exact HI.out.fin
end Go.Proofs.YtacaknkfddlklaaGreatDoor
namespace Go.Proofs.YtacaknkfddlklaaGreatDoor
open Go.RowKit Go.IntWalk

theorem PutSt.own {ok : Nat → Prop} {w wx : World} {o : Obj} {l : List UInt8} {v : Value} (h : PutSt ok w o l v wx) : RdBy wx v l := RdBy.own h.1
/-- what stands in a new box stays -/
theorem box_below {w w3 : World} {c0 c1 c2 c3 c4 : Value} {e : TypeId} (h : Below (w.alloc (.cells #[c0, c1, c2, c3, c4] e)).drew.heap.size (w.alloc (.cells #[c0, c1, c2, c3, c4] e)).drew w3) :
    w3.cell? ⟨w.heap.size, 0, none⟩ = some c0 ∧ w3.cell? ⟨w.heap.size, 1, none⟩ = some c1 ∧ w3.cell? ⟨w.heap.size, 2, none⟩ = some c2 ∧ w3.cell? ⟨w.heap.size, 3, none⟩ = some c3 ∧ w3.cell? ⟨w.heap.size, 4, none⟩ = some c4 :=
  ⟨bcell (w := (w.alloc (.cells #[c0, c1, c2, c3, c4] e)).drew) h (World.cell?_alloc_at _ _ _ _ rfl), bcell (w := (w.alloc (.cells #[c0, c1, c2, c3, c4] e)).drew) h (World.cell?_alloc_at _ _ _ _ rfl), bcell (w := (w.alloc (.cells #[c0, c1, c2, c3, c4] e)).drew) h (World.cell?_alloc_at _ _ _ _ rfl), bcell (w := (w.alloc (.cells #[c0, c1, c2, c3, c4] e)).drew) h (World.cell?_alloc_at _ _ _ _ rfl), bcell (w := (w.alloc (.cells #[c0, c1, c2, c3, c4] e)).drew) h (World.cell?_alloc_at _ _ _ _ rfl)⟩
set_option maxRecDepth 20000 in
set_option maxHeartbeats 900000 in
theorem put_rec (L : List V) (hL : L.length ≤ 100000) (A B : Option Addr) (c d : Nat) (hc : L.length ≤ c) (hc2 : c ≤ 9223372036854775807) (K : List (List UInt8)) (hKL : K.length = L.length) (hKs : ∀ j (h : j < K.length), (K[j]).length ≤ 100000) (hd1 : L.length ≤ d) (hd2 : d ≤ 9223372036854775807) (l : List UInt8) (b : Value) (ok okv : Nat → Prop) (w : World) (hvs : RdVs okv w (.slice A L.length c) 0 L) (hks : RdK okv w (.slice B L.length d) K) (hb : OwnB ok w b l) (hnew : ∀ k, w.heap.size ≤ k → ok k) (hd : ∀ k, okv k → ¬ ok k)
    (hl : l.length + (6 :: (uvar L.length ++ encR L K)).length ≤ 90000) (ih : ∀ j (h : j < L.length), PutOK L[j]) :
    Calls Tryz.prog 99 #[b, .agg #[.int .i64 5, .int .i64 0, .string ⟨#[]⟩, .slice A L.length c, .slice B L.length d]] w (PutPost ok w (l ++ 6 :: (uvar L.length ++ encR L K))) := by
  have HWU := Lib.hid (show IntKind.u64.wrap (L.length : Int) = (L.length : Int) from u64_in _ (by omega))
  have HO := Lib.hid (OwnR.drew (OwnR.alloc (okb_own hb) (.cells #[.int .i64 5, .int .i64 0, .string ⟨#[]⟩, .slice A L.length c, .slice B L.length d] 25)) : OwnB (okb ok w.heap.size) _ b l)
  have HN := Lib.hid hnew
  have Hl := Lib.hid hl
  have Hvs := Lib.hid hvs
  have Hd := Lib.hid hd
  have Hks := Lib.hid hks
  have HKL := Lib.hid hKL
  have HKs := Lib.hid hKs
  have Hih := Lib.hid ih
  clear hb hnew hl hvs hd ih hks hKL hKs
  go_enter Tryz.func99, Tryz.ntmps99
  go_wp2_with fail
  go_upto_region 17 with fail
  go_cut [0] (fun t0 wx => PutSt ok w (.cells #[.int .i64 5, .int .i64 0, .string ⟨#[]⟩, .slice A L.length c, .slice B L.length d] 25) (l ++ 6 :: uvar L.length) t0 wx)
  case first =>
    go_region_law (first
      | (refine stB_app _ 6 (.tmp 60) (.tmp 61) rfl rfl rfl (w.heap.size + 1) 1 rfl (by rw [← size_draw_alloc w (.cells #[.int .i64 5, .int .i64 0, .string ⟨#[]⟩, .slice A L.length c, .slice B L.length d] 25)]; exact cell_new _ _) (OwnR.alloc HO.out _) ((((Fr.refl (okb ok w.heap.size) (w.alloc (.cells #[.int .i64 5, .int .i64 0, .string ⟨#[]⟩, .slice A L.length c, .slice B L.length d] 25)))).drew).alloc _) (by have := Hl.out; omega) (fun k h => ⟨HN.out k (by simp at h; omega), by simp at h; omega⟩) ?_
         intro v2 w2 h1 h2
         have cc := (box_cell h2).2.2.2.1
         have H2 := Lib.hid h2
         have H1 := Lib.hid (RdBy.own h1)
         clear h1 h2)
      | (go_simp
         go_at_call 125
         rw [HWU.out]
         refine (num_PutUint L.length (by omega) (l ++ [6]) (by have := Hl.out; simp; omega) _ _ H1.out).mono ?_
         rintro e w3 ⟨v3, rfl, h3, h4⟩
         have H3 := Lib.hid (put_mid H2.out HN.out h3 h4)
         clear h3 h4
         go_simp))
    all_goals go_wp2_with fail
    all_goals go_meet
    all_goals exact (List.append_assoc l [6] _ ▸ H3.out : PutSt ok w _ (l ++ ([6] ++ uvar L.length)) _ _)
  case rest =>
    have HI := Lib.hid hcut
    have c3 := hcut.cells.1
    clear hcut
    go_wp2_with fail
    go_loopw [0, 71] (fun t0 i wr => ∃ k, k ≤ L.length ∧ i = .int .i64 (k : Int) ∧ PutSt ok w (.cells #[.int .i64 5, .int .i64 0, .string ⟨#[]⟩, .slice A L.length c, .slice B L.length d] 25) (l ++ 6 :: (uvar L.length ++ encR (L.take k) K)) t0 wr) (fun _ i _ => L.length - (intOf i).toNat)
    case atStart => exact ⟨0, Nat.zero_le _, rfl, by simpa [encR] using HI.out⟩
    case round =>
      obtain ⟨k, hk, rfl, hI⟩ := hrel
      have HI := Lib.hid hI
      clear hI
      by_cases hlt : k < L.length
      · have hlA : (k : Int) < (L.length : Int) := by omega
        have h00 : (0 : Int) ≤ (k : Int) := by omega
        have hltk : k < K.length := by have := HKL.out; omega
        have c4 := HI.out.cells.2
        obtain ⟨g, off, A', c', B', d', rfl, hog, hrd, e0, e1, e2, e3, e4⟩ := (Hvs.out.fr (okb_fr HI.out.2) (fun k _ h => Hd.out k h)).elem k hlt
        obtain ⟨gk, offk, rfl, hogk, ek, hekl⟩ := (Hks.out.fr (okb_fr HI.out.2) (fun k _ h => Hd.out k h)).elem k hltk
        have hst := encR_step hlt hltk
        have hle := encR_le (L := L) K (k + 1)
        have hih := Hih.out k hlt
        have hkl := HKs.out k hltk
        generalize L[k] = X at *
        generalize K[k] = key at *
        have HR := Lib.hid hrd
        have HST := Lib.hid hst
        have HLE := Lib.hid hle
        have HIH := Lib.hid hih
        have Hkl := Lib.hid hkl
        clear hrd hst hle hih hog hogk hekl hkl hltk
        go_upto_region 21 with fail
        have HW := Lib.hid (HI.out.alloc (.cells #[.int .i64 X.kind, .int .i64 X.num, .string ⟨X.str.toArray⟩, .slice A' X.parts.length c', .slice B' X.keys.length d'] 25))
        replace c4 := HW.out.cells.2
        replace ek := bcell (one_b wr (.cells #[.int .i64 X.kind, .int .i64 X.num, .string ⟨X.str.toArray⟩, .slice A' X.parts.length c', .slice B' X.keys.length d'] 25)) ek
        have HL1 := Lib.hid (show (l ++ 6 :: (uvar L.length ++ encR (L.take k) K)).length + (uvar key.length ++ key).length + (encS X).length ≤ 90000 by
          have h1 := HLE.out
          have h2 := Hl.out
          rw [HST.out] at h1
          simp only [List.length_append, List.length_cons] at h1 h2 ⊢
          omega)
        clear HLE Hl
        go_region_with (first
          | (go_at_call 124
             refine (num_PutText key (by have := Hkl.out; omega) (l ++ 6 :: (uvar L.length ++ encR (L.take k) K)) (by have := HL1.out; omega) _ _ HW.out.drew.own).mono ?_
             rintro e w3 ⟨v3, rfl, h3, h4⟩
             have H3 := Lib.hid (HW.out.drew.mk HN.out h3 h4)
             have HR3 := Lib.hid ((HR.out.below (bthen (one_b _ _) (Below.refl _ _).drew)).below h4)
             obtain ⟨b0, b1, b2, b3, b4⟩ := box_below h4
             clear h3 h4)
          | (go_at_call 99
             refine (HIH.out _ _ _ (okb ok w.heap.size) okv _ HR3.out H3.out.1 (H3.out.new HN.out) (fun k h h2 => Hd.out k h h2.1) (by have := HL1.out; simp only [List.length_append] at this ⊢; omega)).mono ?_
             rintro e w4 ⟨r, rfl, h5, h6⟩
             have HP := Lib.hid (H3.out.put h5 h6)
             clear h5 h6)
          | fail)
        all_goals go_wp2_with fail
        all_goals exact ⟨⟨k + 1, by omega, by go_num, by rw [HST.out]; simpa [List.append_assoc] using HP.out⟩, by simp [intOf]; omega⟩
      · have hlA : ¬ (k : Int) < (L.length : Int) := by omega
        have hkk : L.take k = L := List.take_of_length_le (by omega)
        rw [hkk] at HI
        clear hkk
        go_wp2_with fail
        go_ret
        exact HI.out.fin
end Go.Proofs.YtacaknkfddlklaaGreatDoor
namespace Go.Proofs.YtacaknkfddlklaaGreatDoor
open Go.RowKit Go.IntWalk

theorem put_ok : ∀ (m : Nat) (X : V), SizeOf.sizeOf X ≤ m → Rightish X → PutOK X := by
  intro m
  induction m with
  | zero => intro X hm; cases X; simp only [V.mk.sizeOf_spec] at hm; omega
  | succ m ih =>
    intro X hm hX v b l ok okv w hv hb hnew hd hl
    have hp := hX.plain
    have hbd := hX.bounds
    have ihp : ∀ j (h : j < X.parts.length), PutOK X.parts[j] := fun j h => ih _ (by have := V.sz_part (x := X) h; omega) (hp.2 j h)
    have hn := hv.open.2.1
    obtain ⟨_, _, _, lv, kv, hvv, _, hls, hks⟩ := hv.open
    obtain ⟨A, c, B, d, rfl, h1, h2, h3, h4, h5, h6, h7⟩ := hv.form
    injection hvv with hvv
    simp only [Array.mk.injEq, List.cons.injEq, and_true, true_and] at hvv
    obtain ⟨rfl, rfl⟩ := hvv
    cases X with
    | mk k n s L ks =>
    simp only [V.kind, V.num, V.str, V.parts, V.keys] at *
    rcases plain_cases hp.1 with ⟨e0, e1, e2, e3, e4⟩ | ⟨e0, e1, e2, e3, e4⟩ | ⟨e0, e2, e3, e4⟩ | ⟨e0, e1, e3, e4⟩ | ⟨e0, e1, e2, e4⟩ | ⟨e0, e1, e2, e4⟩
    · exact put_unit _ hX e0 l _ b ok okv w hv hb hnew (by omega)
    · have e5 : L = [] := List.length_eq_zero_iff.1 e3
      have e6 : ks = [] := List.length_eq_zero_iff.1 e4
      subst e0 e2 e5 e6
      rcases e1 with rfl | rfl
      · exact put_bool0 A B c d l b ok w hb hnew (by omega)
      · exact put_bool1 A B c d l b ok w hb hnew (by omega)
    · have e5 : L = [] := List.length_eq_zero_iff.1 e3
      have e6 : ks = [] := List.length_eq_zero_iff.1 e4
      subst e0 e2 e5 e6
      exact put_int n hn A B c d l b ok w hb hnew (by omega)
    · have e5 : L = [] := List.length_eq_zero_iff.1 e3
      have e6 : ks = [] := List.length_eq_zero_iff.1 e4
      subst e0 e1 e5 e6
      have he : encS (.mk 3 0 s [] []) = 4 :: (uvar s.length ++ s) := by rw [encS]; simp
      rw [he]
      exact put_text s (by omega) A B c d l b ok w hb hnew (by omega)
    · have e6 : ks = [] := List.length_eq_zero_iff.1 e4
      subst e0 e1 e2 e6
      have he : encS (.mk 4 0 [] L []) = 5 :: (uvar L.length ++ encL L) := by rw [encS]; simp
      rw [he] at hl ⊢
      exact put_row L (by omega) A B c d (by omega) h2 l b ok okv w hls hb hnew hd hl ihp
    · subst e0 e1 e2
      have he : encS (.mk 5 0 [] L ks) = 6 :: (uvar L.length ++ encR L ks) := by rw [encS]; simp
      rw [he] at hl ⊢
      show Calls _ _ #[b, .agg #[.int .i64 5, .int .i64 0, .string ⟨#[]⟩, .slice A L.length c, .slice B ks.length d]] w _
      rw [e4]
      rw [e4] at hks
      exact put_rec L (by omega) A B c d (by omega) h2 ks e4 (fun j h => Nat.le_trans (hbd.2.2 rfl j h) (by omega)) (by omega) (by omega) l b ok okv w hls hks hb hnew hd hl ihp
end Go.Proofs.YtacaknkfddlklaaGreatDoor
namespace Go.Proofs.YtacaknkfddlklaaGreatDoor
open Go.RowKit Go.IntWalk

theorem RdBy.clip {w : World} {A : Option Addr} {n c : Nat} {l : List UInt8} (h : RdBy w (.slice A n c) l) : RdBy w (.slice A n n) l := by
  obtain ⟨A', c', hv, hc⟩ := h
  injection hv with h1 h2 h3
  subst h1 h2
  exact ⟨A, l.length, rfl, hc⟩
theorem box_below0 {w w3 : World} {c0 c1 c2 c3 c4 : Value} {e : TypeId} (h : Below (w.alloc (.cells #[c0, c1, c2, c3, c4] e)).heap.size (w.alloc (.cells #[c0, c1, c2, c3, c4] e)) w3) :
    w3.cell? ⟨w.heap.size, 0, none⟩ = some c0 ∧ w3.cell? ⟨w.heap.size, 1, none⟩ = some c1 ∧ w3.cell? ⟨w.heap.size, 2, none⟩ = some c2 ∧ w3.cell? ⟨w.heap.size, 3, none⟩ = some c3 ∧ w3.cell? ⟨w.heap.size, 4, none⟩ = some c4 :=
  ⟨bcell h (World.cell?_alloc_at _ _ _ _ rfl), bcell h (World.cell?_alloc_at _ _ _ _ rfl), bcell h (World.cell?_alloc_at _ _ _ _ rfl), bcell h (World.cell?_alloc_at _ _ _ _ rfl), bcell h (World.cell?_alloc_at _ _ _ _ rfl)⟩
theorem putok_nil (X : V) (hX : rightB X = true) (v : Value) (ok : Nat → Prop) (w : World) (hv : RdV ok w v X) :
    Calls Tryz.prog 99 #[.slice none 0 0, v] w fun e w' => ∃ A n c, e = .returned (.slice A n c) ∧ n ≤ c ∧ c ≤ 9223372036854775807 ∧ RdBy w' (.slice A n c) (encS X) ∧ Below w.heap.size w w' := by
  refine (put_ok (SizeOf.sizeOf X) X (Nat.le_refl _) (rightish_of hX) v (.slice none 0 0) [] (newB w.heap.size) (fun k => k < w.heap.size) w (hv.lt.imp fun _ h => h.2) (OwnR.nil _ _ _ _) (fun k h => h) (fun k h h2 => by simp only [newB] at h2; omega) (by have := enc_len hv hX; simp; omega)).mono ?_
  rintro e w' ⟨r, rfl, h1, h2⟩
  rw [List.nil_append] at h1
  have hb := h2.to_below fun k hk h => by simp only [newB] at h; omega
  rcases h1.row.2 with ⟨rfl, hn⟩ | ⟨g, cap, cur, rfl, _, _, hl, hm, _⟩
  · exact ⟨none, 0, 0, rfl, Nat.le_refl _, by omega, RdBy.own h1, hb⟩
  · exact ⟨_, _, cap, rfl, hl, by unfold maxLen at hm; omega, RdBy.own h1, hb⟩
/-- what Put and Encode answer -/
def EncPost (w : World) (X : V) (e : Ending) (w' : World) : Prop :=
  Below w.heap.size w w' ∧ ((rightB X = true ∧ ∃ r, e = .returned (.tuple #[r, .int .i64 0]) ∧ RdBy w' r (encS X)) ∨ (rightB X = false ∧ e = .returned (.tuple #[.slice none 0 0, .int .i64 40])))
set_option maxRecDepth 20000 in
set_option maxHeartbeats 2000000 in
theorem wire_Put_no (X : V) (hX : rightB X = false) (v : Value) (ok : Nat → Prop) (w : World) (hv : RdV ok w v X) :
    Calls Tryz.prog 43 #[.slice none 0 0, v] w (EncPost w X) := by
  obtain ⟨A, c, B, d, rfl, _⟩ := hv.form
  have Hv := Lib.hid hv
  have HX := Lib.hid hX
  clear hv hX
  go_enter Tryz.func43, Tryz.ntmps43
  go_wp2_with fail
  refine (value_Right X _ ok _ (Hv.out.below (one_b _ _))).mono ?_
  rintro e w1 ⟨rfl, hb⟩
  rw [HX.out]
  have HB := Lib.hid (bthen (one_b _ _) hb)
  clear hb
  go_wp2_with fail
  refine bodyPost_ret (results_tmp2 rfl _ _ _) rfl ?_
  exact ⟨HB.out, Or.inr ⟨HX.out, rfl⟩⟩
set_option maxRecDepth 20000 in
set_option maxHeartbeats 2000000 in
theorem wire_Put_yes (X : V) (hX : rightB X = true) (v : Value) (ok : Nat → Prop) (w : World) (hv : RdV ok w v X) :
    Calls Tryz.prog 43 #[.slice none 0 0, v] w (EncPost w X) := by
  obtain ⟨A, c, B, d, rfl, _⟩ := hv.form
  have Hv := Lib.hid hv
  have HX := Lib.hid hX
  clear hv hX
  go_enter Tryz.func43, Tryz.ntmps43
  go_wp2_with fail
  refine (value_Right X _ ok _ (Hv.out.below (one_b _ _))).mono ?_
  rintro e w1 ⟨rfl, hb⟩
  rw [HX.out]
  have HB := Lib.hid (bthen (one_b _ _) hb)
  obtain ⟨b0, b1, b2, b3, b4⟩ := box_below0 hb
  clear hb
  go_upto_region 3 with fail
  have HV1 := Lib.hid (Hv.out.below HB.out)
  go_region_with (first
    | (go_at_call 100
       refine (clone_nil _).mono ?_
       rintro e w2 ⟨rfl, rfl⟩)
    | (go_at_call 99
       refine (putok_nil X HX.out _ ok _ (HV1.out.below (Below.refl _ _).drew)).mono ?_
       rintro e w3 ⟨A3, n3, c3, rfl, q1, q2, q3, q4⟩
       have H3 := Lib.hid (RdBy.clip q3)
       have HB3 := Lib.hid (bthen HB.out (bthen (Below.refl _ _).drew q4))
       have Q1 := Lib.hid q1
       have Q2 := Lib.hid q2
       clear q1 q2 q3 q4)
    | (go_at_call 98
       refine (clip_any _ _ _ Q1.out Q2.out _).mono ?_
       rintro e w5 ⟨rfl, rfl⟩)
    | fail)
  all_goals go_wp2_with fail
  all_goals refine bodyPost_ret (results_tmp2 rfl _ _ _) rfl ?_
  all_goals exact ⟨HB3.out, Or.inl ⟨HX.out, _, rfl, H3.out⟩⟩
set_option maxRecDepth 20000 in
set_option maxHeartbeats 2000000 in
theorem wire_Encode (X : V) (v : Value) (ok : Nat → Prop) (w : World) (hv : RdV ok w v X) :
    Calls Tryz.prog 23 #[v] w (EncPost w X) := by
  obtain ⟨A, c, B, d, rfl, _⟩ := hv.form
  have Hv := Lib.hid hv
  clear hv
  go_enter Tryz.func23, Tryz.ntmps23
  go_wp2_with fail
  have hput : Calls Tryz.prog 43 #[.slice none 0 0, valV X A c B d] (w.alloc (.cells #[.int .i64 X.kind, .int .i64 X.num, .string ⟨X.str.toArray⟩, .slice A X.parts.length c, .slice B X.keys.length d] 25)) (EncPost (w.alloc (.cells #[.int .i64 X.kind, .int .i64 X.num, .string ⟨X.str.toArray⟩, .slice A X.parts.length c, .slice B X.keys.length d] 25)) X) := by
    cases hX : rightB X with
    | true => exact wire_Put_yes X hX _ ok _ (Hv.out.below (one_b _ _))
    | false => exact wire_Put_no X hX _ ok _ (Hv.out.below (one_b _ _))
  refine hput.mono ?_
  clear hput
  rintro e w1 ⟨hb, ⟨hX, r, rfl, hr⟩ | ⟨hX, rfl⟩⟩
  · have HB := Lib.hid (bthen (one_b _ _) hb)
    have HX := Lib.hid hX
    have HR := Lib.hid hr
    clear hb hX hr
    go_wp2_with fail
    refine bodyPost_ret (results_tmp2 rfl _ _ _) rfl ?_
    exact ⟨HB.out, Or.inl ⟨HX.out, _, rfl, HR.out⟩⟩
  · have HB := Lib.hid (bthen (one_b _ _) hb)
    have HX := Lib.hid hX
    clear hb hX
    go_wp2_with fail
    refine bodyPost_ret (results_tmp2 rfl _ _ _) rfl ?_
    exact ⟨HB.out, Or.inr ⟨HX.out, rfl⟩⟩
end Go.Proofs.YtacaknkfddlklaaGreatDoor
