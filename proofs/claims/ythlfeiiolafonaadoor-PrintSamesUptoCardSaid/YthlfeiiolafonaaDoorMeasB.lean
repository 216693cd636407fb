/- Contract of value.form: are the fields that a kind does not use zero? Contract of the closure in value.measure: it walks through a value. Contract of the reference's plain: the same as value.form's. Contracts of the reference's weighed and Right. Contracts of value.measure, Weight, Right, and of the reference's Right: both tell rightB. -/
import Derived.Test.YthlfeiiolafonaaDoorValB
import Derived.BigQuiet
import Derived.WalkLawsBesides
import Derived.Laws.EntriesVeiled
set_option linter.unusedVariables false
set_option linter.unusedSimpArgs false
namespace Go.Proofs.YthlfeiiolafonaaDoor
open Go.RowKit Go.IntWalk

theorem below_drewN (w : World) (n : Nat) : Below w.heap.size w (w.drewN n) := ⟨rfl, rfl, rfl, Nat.le_refl _, fun _ _ => rfl⟩
def formB (x : V) : Bool := plainS x.kind x.num x.str x.parts.length x.keys.length
set_option maxRecDepth 20000 in
set_option maxHeartbeats 400000 in
theorem value_form (kind n : Int) (s : List UInt8) (A B : Option Addr) (nl cl nk ck : Nat) (w : World) (h1 : nl ≤ 16777216) (h2 : nk ≤ 16777216) (h3 : nl ≤ cl) (h4 : nk ≤ ck) :
    Calls Tryd.prog 86 #[.agg #[.int .i64 kind, .int .i64 n, .string ⟨s.toArray⟩, .slice A nl cl, .slice B nk ck]] w fun e w' => e = .returned (.bool (plainS kind n s nl nk)) ∧ Below w.heap.size w w' := by
  have hsz : (⟨s.toArray⟩ : ByteArray).toList = s := by simp [ByteArray.toList_eq]
  have hb2 : ∀ (a b : Obj), Below w.heap.size w ((w.alloc a).alloc b) := fun a b => ((Below.refl _ _).alloc (Nat.le_refl _) a).alloc (size_alloc_le _ _) b
  by_cases k0 : kind = 0
  · subst k0
    go_enter Tryd.func86, Tryd.ntmps86
    go_wp2
    all_goals go_ret
    all_goals refine ⟨congrArg (fun b => Ending.returned (Value.bool b)) ?_, hb2 _ _⟩
    all_goals first | (rw [Bool.eq_iff_iff]; simp_all [plainS]; done) | (rw [Bool.eq_iff_iff]; simp_all [plainS]; omega)
  by_cases k1 : kind = 1
  · subst k1
    go_enter Tryd.func86, Tryd.ntmps86
    go_wp2
    all_goals go_ret
    all_goals refine ⟨congrArg (fun b => Ending.returned (Value.bool b)) ?_, hb2 _ _⟩
    all_goals first | (rw [Bool.eq_iff_iff]; simp_all [plainS]; done) | (rw [Bool.eq_iff_iff]; simp_all [plainS]; omega)
  by_cases k2 : kind = 2
  · subst k2
    go_enter Tryd.func86, Tryd.ntmps86
    go_wp2
    all_goals go_ret
    all_goals refine ⟨congrArg (fun b => Ending.returned (Value.bool b)) ?_, hb2 _ _⟩
    all_goals first | (rw [Bool.eq_iff_iff]; simp_all [plainS]; done) | (rw [Bool.eq_iff_iff]; simp_all [plainS]; omega)
  by_cases k3 : kind = 3
  · subst k3
    go_enter Tryd.func86, Tryd.ntmps86
    go_wp2
    all_goals go_ret
    all_goals refine ⟨congrArg (fun b => Ending.returned (Value.bool b)) ?_, hb2 _ _⟩
    all_goals first | (rw [Bool.eq_iff_iff]; simp_all [plainS]; done) | (rw [Bool.eq_iff_iff]; simp_all [plainS]; omega)
  by_cases k4 : kind = 4
  · subst k4
    go_enter Tryd.func86, Tryd.ntmps86
    go_wp2
    all_goals go_ret
    all_goals refine ⟨congrArg (fun b => Ending.returned (Value.bool b)) ?_, hb2 _ _⟩
    all_goals first | (rw [Bool.eq_iff_iff]; simp_all [plainS]; done) | (rw [Bool.eq_iff_iff]; simp_all [plainS]; omega)
  by_cases k5 : kind = 5
  · subst k5
    go_enter Tryd.func86, Tryd.ntmps86
    go_wp2
    all_goals go_ret
    all_goals refine ⟨congrArg (fun b => Ending.returned (Value.bool b)) ?_, hb2 _ _⟩
    all_goals first | (rw [Bool.eq_iff_iff]; simp_all [plainS]; done) | (rw [Bool.eq_iff_iff]; simp_all [plainS]; omega)
  have e1 : (kind == 1) = false := by simpa using k1
  have e2 : (kind == 2) = false := by simpa using k2
  have e3 : (kind == 3) = false := by simpa using k3
  have e4 : (kind == 4) = false := by simpa using k4
  have e5 : (kind == 5) = false := by simpa using k5
  have hno : plainS kind n s nl nk = false := by simp [plainS, k0, k1, k2, k3, k4, k5]
  have Hno := Lib.hid hno
  clear hno
  by_cases kn : 0 ≤ kind
  · have kp : ¬ kind ≤ 5 := by omega
    go_enter Tryd.func86, Tryd.ntmps86
    go_wp2
    all_goals go_ret
    all_goals exact ⟨by rw [Hno.out]; rfl, hb2 _ _⟩
  · go_enter Tryd.func86, Tryd.ntmps86
    go_wp2
    all_goals go_ret
    all_goals exact ⟨by rw [Hno.out]; rfl, hb2 _ _⟩
end Go.Proofs.YthlfeiiolafonaaDoor
namespace Go.Proofs.YthlfeiiolafonaaDoor
open Go.RowKit Go.IntWalk

/-- the two counters: a cell each, in blocks of their own -/
def Cnt (w : World) (pd pw : Nat) (d n : Int) : Prop := w.cell? ⟨pd, 0, none⟩ = some (.int .i64 d) ∧ w.cell? ⟨pw, 0, none⟩ = some (.int .i64 n) ∧ w.frozen? ⟨pd, 0, none⟩ = false ∧ w.frozen? ⟨pw, 0, none⟩ = false
abbrev two (pd pw : Nat) : Nat → Prop := fun b => b = pd ∨ b = pw
def WalkPost (w : World) (pd pw : Nat) (r : Option Nat) (e : Ending) (w' : World) : Prop :=
  e = .returned (.bool r.isSome) ∧ Fr (two pd pw) w w' ∧ ∃ d n, Cnt w' pd pw d n ∧ ∀ m, r = some m → n = (m : Int) ∧ 0 ≤ d ∧ d ≤ 8
def prevK (ks : List (List UInt8)) (k : Nat) : Option (List UInt8) := if k = 0 then none else some (ks.getD (k - 1) [])
theorem Cnt.alloc {w : World} {pd pw : Nat} {d n : Int} (h : Cnt w pd pw d n) (X : Obj) : Cnt (w.alloc X) pd pw d n := by
  obtain ⟨h1, h2, h3, h4⟩ := h
  have hb : Below w.heap.size w (w.alloc X) := (Below.refl _ _).alloc (Nat.le_refl _) X
  exact ⟨bcell hb h1, bcell hb h2, (hb.frozen (p := ⟨pd, 0, none⟩) (World.block_lt_of_cell? w _ h1)).trans h3, (hb.frozen (p := ⟨pw, 0, none⟩) (World.block_lt_of_cell? w _ h2)).trans h4⟩
theorem Cnt.below {w w1 : World} {pd pw : Nat} {d n : Int} (h : Cnt w pd pw d n) (hb : Below w.heap.size w w1) : Cnt w1 pd pw d n := by
  obtain ⟨h1, h2, h3, h4⟩ := h
  exact ⟨bcell hb h1, bcell hb h2, (hb.frozen (p := ⟨pd, 0, none⟩) (World.block_lt_of_cell? w _ h1)).trans h3, (hb.frozen (p := ⟨pw, 0, none⟩) (World.block_lt_of_cell? w _ h2)).trans h4⟩
theorem Cnt.set2 {w : World} {pd pw : Nat} {d n : Int} (h : Cnt w pd pw d n) (hne : pd ≠ pw) (n' : Int) : Cnt (w.setCell ⟨pw, 0, none⟩ (.int .i64 n')) pd pw d n' := by
  obtain ⟨h1, h2, h3, h4⟩ := h
  exact ⟨by rw [World.cell?_setCell_other _ _ _ _ (by intro e; injection e with e; exact hne e.symm)]; exact h1, World.cell?_setCell_same _ _ _ h2, by rw [World.frozen?_setCell]; exact h3, by rw [World.frozen?_setCell]; exact h4⟩
theorem Cnt.set1 {w : World} {pd pw : Nat} {d n : Int} (h : Cnt w pd pw d n) (hne : pd ≠ pw) (d' : Int) : Cnt (w.setCell ⟨pd, 0, none⟩ (.int .i64 d')) pd pw d' n := by
  obtain ⟨h1, h2, h3, h4⟩ := h
  exact ⟨World.cell?_setCell_same _ _ _ h1, by rw [World.cell?_setCell_other _ _ _ _ (by intro e; injection e with e; exact hne e)]; exact h2, by rw [World.frozen?_setCell]; exact h3, by rw [World.frozen?_setCell]; exact h4⟩
theorem geq_run (a b : List UInt8) (W : World) : (Op.stringOp .geq ⟨a.toArray⟩ ⟨b.toArray⟩).run Tryd.prog W = .ok (.bool (!Op.bytesLess a b)) W := by
  simp [Op.stringOp, ByteArray.toList_eq]
theorem two_set {w w' : World} {pd pw : Nat} (h : Fr (two pd pw) w w') (d n : Int) : Fr (two pd pw) w ((w'.setCell ⟨pd, 0, none⟩ (.int .i64 d)).setCell ⟨pw, 0, none⟩ (.int .i64 n)) := (h.setCell (.inl rfl) _).setCell (.inr rfl) _
theorem box5 (w : World) (c0 c1 c2 c3 c4 : Value) (t : TypeId) : Five (w.alloc (.cells #[c0, c1, c2, c3, c4] t)) w.heap.size 0 (.agg #[c0, c1, c2, c3, c4]) :=
  ⟨c0, c1, c2, c3, c4, rfl, World.cell?_alloc_at _ _ _ _ rfl, World.cell?_alloc_at _ _ _ _ rfl, World.cell?_alloc_at _ _ _ _ rfl, World.cell?_alloc_at _ _ _ _ rfl, World.cell?_alloc_at _ _ _ _ rfl⟩

set_option maxRecDepth 20000 in
set_option maxHeartbeats 4000000 in
theorem measure_walk (pd pw pk : Nat) (hpp : pd ≠ pw) : ∀ (sz : Nat) (x : V), SizeOf.sizeOf x ≤ sz → ∀ (v : Value) (a d : Int) (n : Nat) (ok : Nat → Prop) (w : World), RdV ok w v x → 0 ≤ a → a ≤ 8 → 0 ≤ d → d ≤ 8 → n ≤ 4096 → Cnt w pd pw d n →
    (∀ b, ok b → b ≠ pd ∧ b ≠ pw) → pk ≠ pd → pk ≠ pw → w.cell? ⟨pk, 0, none⟩ = some (.func (.func 85) #[] #[.pointer (some ⟨pd, 0, none⟩), .pointer (some ⟨pw, 0, none⟩), .pointer (some ⟨pk, 0, none⟩)]) →
    Calls Tryd.prog 85 #[v, .int .i64 a, .pointer (some ⟨pd, 0, none⟩), .pointer (some ⟨pw, 0, none⟩), .pointer (some ⟨pk, 0, none⟩)] w (WalkPost w pd pw (wS a.toNat n x)) := by
  intro sz
  induction sz with
  | zero => intro x hx; cases x; simp at hx
  | succ sz ih =>
    intro x hsz v a d n ok w hv ha0 ha8 hd0 hd8 hn hC hok hk1 hk2 hck
    obtain ⟨hkd, hnm, hsl, lv, kv, rfl, hfl, hvs, hks⟩ := hv.open
    obtain ⟨A, cl, rfl, hl1, hl2, hl3⟩ := hfl
    obtain ⟨⟨B, ck, rfl, hk3, hk4, hk5⟩, hkc⟩ := hks
    obtain ⟨c1, c2, f1, f2⟩ := hC
    have hform := fun W => value_form x.kind x.num x.str A B x.parts.length cl x.keys.length ck W hl3 hk5 hl1 hk3
    have Hw : Hid (wS a.toNat n x = if plainS x.kind x.num x.str x.parts.length x.keys.length = true ∧ a.toNat < 8 ∧ n + 1 + x.str.length ≤ 2048 then wL a.toNat (x.kind == 5) none (n + 1 + x.str.length) x.parts x.keys else none) := wS_eq _ _ _
    have Hhead : Hid (pd < w.heap.size ∧ pw < w.heap.size ∧ pk < w.heap.size) := ⟨World.block_lt_of_cell? w _ c1, World.block_lt_of_cell? w _ c2, World.block_lt_of_cell? w _ hck⟩
    have hS : (⟨x.str.toArray⟩ : ByteArray).size = x.str.length := by simp [ByteArray.size]
    have HC := Lib.hid (show Cnt w pd pw d n from ⟨c1, c2, f1, f2⟩)
    have A1 : ∀ X, (w.alloc X).cell? ⟨pd, 0, none⟩ = some (.int .i64 d) := fun X => (HC.out.alloc X).1
    have A2 : ∀ X, (w.alloc X).cell? ⟨pw, 0, none⟩ = some (.int .i64 (n : Int)) := fun X => (HC.out.alloc X).2.1
    have A3 : ∀ X, (w.alloc X).frozen? ⟨pd, 0, none⟩ = false := fun X => (HC.out.alloc X).2.2.1
    have A4 : ∀ X, (w.alloc X).frozen? ⟨pw, 0, none⟩ = false := fun X => (HC.out.alloc X).2.2.2
    have n1 : ¬ w.heap.size = pd := by have := Hhead.out; omega
    have n2 : ¬ w.heap.size = pw := by have := Hhead.out; omega
    have n3 : ¬ pd = w.heap.size := by have := Hhead.out; omega
    have n4 : ¬ pw = w.heap.size := by have := Hhead.out; omega
    have n5 : ¬ pw = pd := fun h => hpp h.symm
    have n6 : ¬ pd = pw := hpp
    have Hck := Lib.hid hck
    have Hv := Lib.hid hv
    have Hvs := Lib.hid hvs
    have Hkc := Lib.hid hkc
    have Hih := Lib.hid ih
    have Hok := Lib.hid hok
    clear hck hv hvs hkc ih hok c1 c2 f1 f2
    by_cases hg : a.toNat < 8 ∧ n + 1 + x.str.length ≤ 2048
    · obtain ⟨hg1, hg2⟩ := hg
      have hga : a + 1 ≤ 8 := by omega
      have hgn : (n : Int) + (1 + (x.str.length : Int)) ≤ 2048 := by omega
      by_cases hp : plainS x.kind x.num x.str x.parts.length x.keys.length = true
      · rw [hp] at hform
        have Hform := Lib.hid hform
        have hwl : wS a.toNat n x = wL a.toNat (x.kind == 5) none (n + 1 + x.str.length) x.parts x.keys := by rw [Hw.out, if_pos ⟨hp, hg1, hg2⟩]
        have Hwl := Lib.hid hwl
        clear hform hwl Hw
        go_enter Tryd.func85, Tryd.ntmps85
        go_wp2_with fail
        all_goals
          refine (Hform.out _).mono ?_
          rintro e w3 ⟨rfl, hb3⟩
          obtain ⟨D, hD0, hD8, hc3⟩ : ∃ D : Int, 0 ≤ D ∧ D ≤ 8 ∧ Cnt w3 pd pw D ((n + 1 + x.str.length : Nat) : Int) := by
            have h := (((HC.out.alloc _).set1 hpp _).set2 hpp _).below hb3
            rw [show (n : Int) + (1 + (x.str.length : Int)) = ((n + 1 + x.str.length : Nat) : Int) by omega] at h
            exact ⟨_, by omega, by omega, h⟩
          have hf3 := (two_set (Fr.refl (two pd pw) (w.alloc (.cells #[.int .i64 x.kind, .int .i64 x.num, .string ⟨x.str.toArray⟩, .slice A x.parts.length cl, .slice B x.keys.length ck] 25))) _ _).below hb3
          have hbx := (box5 w (.int .i64 x.kind) (.int .i64 x.num) (.string ⟨x.str.toArray⟩) (.slice A x.parts.length cl) (.slice B x.keys.length ck) 25).fr hf3 (fun _ h => h.elim n1 n2)
          have hfw : Fr (two pd pw) w w3 := ((Fr.refl (two pd pw) w).alloc _).trans hf3
          have HV3 := Lib.hid (Hvs.out.fr hfw (fun b _ hb h => by have := Hok.out b hb; rcases h with h | h <;> simp_all))
          have HK3 := Lib.hid (RdK.fr (ok := ok) (v := .slice B x.keys.length ck) ⟨⟨B, ck, rfl, hk3, hk4, hk5⟩, Hkc.out⟩ hfw (fun b _ hb h => by have := Hok.out b hb; rcases h with h | h <;> simp_all))
          have HC3 := Lib.hid hc3
          have HF3 := Lib.hid hfw
          have HB3 := Lib.hid hbx
          have Hck3 := Lib.hid (hfw.cell Hck.out (fun h => by rcases h with h | h <;> simp_all))
          obtain ⟨x0, x1, x2, x3, x4, hx, b0, b1, b2, b3, b4⟩ := HB3.out
          injection hx with hx
          simp only [Array.mk.injEq, List.cons.injEq, and_true] at hx
          obtain ⟨rfl, rfl, rfl, rfl, rfl⟩ := hx
          clear A1 A2 A3 A4 HC hf3 hbx hfw hc3 Hform Hck Hvs Hkc Hv hb3
          simp only [Nat.zero_add] at b0 b1 b2 b3 b4
          go_wp2_with fail
          go_loopw [35] (fun i wr => ∃ (k : Nat) (D : Int) (m : Nat), k ≤ x.parts.length ∧ i = .int .i64 k ∧ Fr (two pd pw) w3 wr ∧ Cnt wr pd pw D m ∧ 0 ≤ D ∧ D ≤ 8 ∧ m ≤ 2048 ∧ wS a.toNat n x = wL a.toNat (x.kind == 5) (prevK x.keys k) m (x.parts.drop k) (x.keys.drop k)) (fun i _ => x.parts.length - (intOf i).toNat)
          case atStart => exact ⟨0, D, n + 1 + x.str.length, Nat.zero_le _, rfl, Fr.refl _ _, HC3.out, hD0, hD8, by omega, by rw [Hwl.out]; rfl⟩
          case round =>
            obtain ⟨k, D, m, hk, rfl, hF, hC, hD0, hD8, hm, hR⟩ := hrel
            have HF := Lib.hid hF
            have HCk := Lib.hid hC
            have HR := Lib.hid hR
            clear hF hC hR
            by_cases hlt : k < x.parts.length
            · have hlA : (k : Int) < (x.parts.length : Int) := by omega
              have h00 : (0 : Int) ≤ (k : Int) := by omega
              obtain ⟨g, off, A', c', B', d', rfl, hog, hrd, e0, e1, e2, e3, e4⟩ := (HV3.out.fr HF.out (fun b _ hb h => by have := Hok.out b hb; rcases h with h | h <;> simp_all)).elem k hlt
              have hsub := V.sz_part hlt
              have hdr : x.parts.drop k = x.parts[k] :: x.parts.drop (k + 1) := List.drop_eq_getElem_cons hlt
              have Hdr := Lib.hid hdr
              clear hdr
              generalize x.parts[k] = X at *
              have HRd := Lib.hid hrd
              obtain ⟨y0, y1, y2, y3, y4, hy, d0, d1, d2, d3, d4⟩ := HB3.out.fr HF.out (fun _ h => h.elim n1 n2)
              injection hy with hy
              simp only [Array.mk.injEq, List.cons.injEq, and_true] at hy
              obtain ⟨rfl, rfl, rfl, rfl, rfl⟩ := hy
              simp only [Nat.zero_add] at d0 d1 d2 d3 d4
              clear hrd
              have hba : ∀ O : Obj, Below wr.heap.size wr (wr.alloc O) := fun O => (Below.refl _ _).alloc (Nat.le_refl _) O
              have D0 := fun O => bcell (hba O) d0
              have D3 := fun O => bcell (hba O) d3
              have D4 := fun O => bcell (hba O) d4
              have C1 : ∀ O, (wr.alloc O).cell? ⟨pd, 0, none⟩ = some (.int .i64 D) := fun O => (HCk.out.alloc O).1
              have C2 : ∀ O, (wr.alloc O).cell? ⟨pw, 0, none⟩ = some (.int .i64 (m : Int)) := fun O => (HCk.out.alloc O).2.1
              have C3 : ∀ O, (wr.alloc O).frozen? ⟨pd, 0, none⟩ = false := fun O => (HCk.out.alloc O).2.2.1
              have C4 : ∀ O, (wr.alloc O).frozen? ⟨pw, 0, none⟩ = false := fun O => (HCk.out.alloc O).2.2.2
              have C5 := fun O => bcell (hba O) (HF.out.cell Hck3.out (fun h => by rcases h with h | h <;> simp_all))
              have hdd := HR.out
              rw [Hdr.out] at hdd
              have hta : (a + 1).toNat = a.toNat + 1 := by omega
              have Hta := Lib.hid hta
              have hpdl := World.block_lt_of_cell? wr _ HCk.out.1
              have hpwl := World.block_lt_of_cell? wr _ HCk.out.2.1
              have m1 : ¬ wr.heap.size = pd := by simp only [] at hpdl; omega
              have m2 : ¬ wr.heap.size = pw := by simp only [] at hpwl; omega
              have m3 : ¬ pd = wr.heap.size := by simp only [] at hpdl; omega
              have m4 : ¬ pw = wr.heap.size := by simp only [] at hpwl; omega
              clear hba HR Hdr d0 d1 d2 d3 d4 hta hpdl hpwl
              by_cases hr : x.kind = 5
              · have hr' : (x.kind == 5) = true := by simpa using hr
                have hkl : x.keys.length = x.parts.length := by rw [hr] at hp; exact plainS_rec hp
                have hltk : k < x.keys.length := by omega
                have hlB : (k : Int) < (x.keys.length : Int) := by omega
                obtain ⟨gk, ofk, rfl, hgk, kc, hkz⟩ := (HK3.out.fr HF.out (fun b _ hb h => by have := Hok.out b hb; rcases h with h | h <;> simp_all)).elem k hltk
                have hdk : x.keys.drop k = x.keys[k] :: x.keys.drop (k + 1) := List.drop_eq_getElem_cons hltk
                have Hpk1 : Hid (prevK x.keys (k + 1) = some x.keys[k]) := by
                  show _ = _
                  rw [prevK, if_neg (by omega), Nat.add_sub_cancel, List.getD_eq_getElem?_getD, List.getElem?_eq_getElem hltk]
                  rfl
                rw [hr', hdk, wL_rec] at hdd
                generalize x.keys[k] = K at *
                have hba : ∀ O : Obj, Below wr.heap.size wr (wr.alloc O) := fun O => (Below.refl _ _).alloc (Nat.le_refl _) O
                have KC := fun O => bcell (hba O) kc
                have hKz : (⟨K.toArray⟩ : ByteArray).size = K.length := by simp [ByteArray.size]
                have Hkl := Lib.hid hkl
                have Hr := Lib.hid hr
                clear hdk hba kc hkl hr
                by_cases hK32 : 32 < K.length
                · have q1 : decide ((32 : Int) < (K.length : Int)) = true := by simp; omega
                  have q2 : decide (32 < K.length) = true := by simp; omega
                  rw [if_neg (by simp [keyOK]; omega)] at hdd
                  have Hdd := Lib.hid hdd
                  clear hdd
                  go_wp2_with fail
                  go_quiet (fail)
                  go_wp2_with fail
                  go_ret
                  rw [Hdd.out]
                  exact ⟨rfl, HF3.out.trans ((HF.out.trans ((Fr.refl _ wr).alloc _)).below (below_drewN _ _)), D, m, (HCk.out.alloc _).below (below_drewN _ _), fun m h => by cases h⟩
                · have q1 : decide ((32 : Int) < (K.length : Int)) = false := by simp; omega
                  have q2 : decide (32 < K.length) = false := by simp; omega
                  have hKb : (K.length : Int) ≤ 32 := by omega
                  have v1 : IntKind.i64.wrap (1 + (K.length : Int)) = 1 + (K.length : Int) := i64_in _ (by omega)
                  have v2 : IntKind.i64.wrap ((m : Int) + (1 + (K.length : Int))) = (m : Int) + (1 + (K.length : Int)) := i64_in _ (by omega)
                  by_cases h0 : 0 < k
                  · obtain ⟨g2, of2, hB2, _, kc2, _⟩ := (HK3.out.fr HF.out (fun b _ hb h => by have := Hok.out b hb; rcases h with h | h <;> simp_all)).elem (k - 1) (by omega)
                    injection hB2 with hB2
                    injection hB2 with hB2 hB3
                    subst hB2 hB3
                    have hpk : prevK x.keys k = some x.keys[k - 1] := by
                      rw [prevK, if_neg (by omega), List.getD_eq_getElem?_getD, List.getElem?_eq_getElem (by omega)]
                      rfl
                    rw [hpk] at hdd
                    generalize x.keys[k - 1] = K' at *
                    have KC2 := fun O => bcell (((Below.refl wr.heap.size wr).alloc (Nat.le_refl _) O)) kc2
                    have p1 : decide ((0 : Int) < (k : Int)) = true := by simp; omega
                    have p2 : decide (0 < k) = true := by simp; omega
                    have i1 : (0 : Int) ≤ (k : Int) - 1 := by omega
                    have i2 : (k : Int) - 1 < (x.keys.length : Int) := by omega
                    have i3 : (1 : Int) ≤ (k : Int) := by omega
                    have i4 : 1 ≤ k := h0
                    have i5 : k - 1 < x.keys.length := by omega
                    have i6 : k ≤ x.keys.length := by omega
                    have s1 : IntKind.i64.wrap ((k : Int) - 1) = (k : Int) - 1 := i64_in _ (by omega)
                    have s3 : ((k : Int) - 1).toNat = k - 1 := by omega
                    have hge := fun W => geq_run K' K W
                    have t1 : (⟨K.toArray⟩ : ByteArray).toList = K := by simp [ByteArray.toList_eq]
                    have t2 : (⟨K'.toArray⟩ : ByteArray).toList = K' := by simp [ByteArray.toList_eq]
                    clear hpk kc2
                    cases hlt2 : Op.bytesLess K' K with
                    | false =>
                      rw [hlt2] at hge
                      rw [if_neg (by simp [keyOK, hlt2])] at hdd
                      have Hdd := Lib.hid hdd
                      clear hdd
                      simp only [Bool.not_false] at hge
                      go_wp2_with fail
                      go_quiet (fail)
                      go_wp2_with fail
                      go_ret
                      rw [Hdd.out]
                      exact ⟨rfl, HF3.out.trans ((HF.out.trans ((Fr.refl _ wr).alloc _)).below (below_drewN _ _)), D, m, (HCk.out.alloc _).below (below_drewN _ _), fun m h => by cases h⟩
                    | true =>
                      rw [hlt2] at hge
                      rw [if_pos (by simp [keyOK, hlt2]; omega)] at hdd
                      simp only [Bool.not_true] at hge
                      rcases hXr : wS (a.toNat + 1) (m + 1 + K.length) X with _ | m'
                      · rw [hXr] at hdd
                        change _ = none at hdd
                        have Hdd := Lib.hid hdd
                        have HXr := Lib.hid hXr
                        clear hdd hXr
                        go_wp2_with fail
                        go_quiet (fail)
                        go_wp2_with fail
                        go_region
                        go_wp2_with fail
                        refine (Hih.out X (by omega) _ (a + 1) D (m + 1 + K.length) ok _ (HRd.out.fr ((((Fr.refl (two pd pw) wr).alloc _).below (below_drewN _ _)).setCell (.inr rfl) _) (fun b _ hb h => by have := Hok.out b hb; rcases h with h | h <;> simp_all)) (by omega) (by omega) hD0 hD8 (by omega) (by rw [show ((m + 1 + K.length : Nat) : Int) = (m : Int) + (1 + (K.length : Int)) by omega]; exact ((HCk.out.alloc _).below (below_drewN _ _)).set2 hpp _) Hok.out hk1 hk2 ((HF.out.trans ((((Fr.refl (two pd pw) wr).alloc _).below (below_drewN _ _)).setCell (.inr rfl) _)).cell Hck3.out (fun h => by rcases h with h | h <;> simp_all))).mono ?_
                        rintro e w4 ⟨rfl, hF4, D', n', hC4, -⟩
                        rw [Hta.out, HXr.out]
                        go_wp2_with fail
                        go_ret
                        rw [Hdd.out]
                        exact ⟨rfl, HF3.out.trans (HF.out.trans (((((Fr.refl (two pd pw) wr).alloc _).below (below_drewN _ _)).setCell (.inr rfl) _).trans hF4)), D', n', hC4, fun m h => by cases h⟩
                      · rw [hXr] at hdd
                        change _ = wL _ _ _ _ _ _ at hdd
                        have Hdd := Lib.hid hdd
                        have HXr := Lib.hid hXr
                        have hm' := (wS_bound hXr).2
                        clear hdd hXr
                        go_wp2_with fail
                        go_quiet (fail)
                        go_wp2_with fail
                        go_region
                        go_wp2_with fail
                        refine (Hih.out X (by omega) _ (a + 1) D (m + 1 + K.length) ok _ (HRd.out.fr ((((Fr.refl (two pd pw) wr).alloc _).below (below_drewN _ _)).setCell (.inr rfl) _) (fun b _ hb h => by have := Hok.out b hb; rcases h with h | h <;> simp_all)) (by omega) (by omega) hD0 hD8 (by omega) (by rw [show ((m + 1 + K.length : Nat) : Int) = (m : Int) + (1 + (K.length : Int)) by omega]; exact ((HCk.out.alloc _).below (below_drewN _ _)).set2 hpp _) Hok.out hk1 hk2 ((HF.out.trans ((((Fr.refl (two pd pw) wr).alloc _).below (below_drewN _ _)).setCell (.inr rfl) _)).cell Hck3.out (fun h => by rcases h with h | h <;> simp_all))).mono ?_
                        rintro e w4 ⟨rfl, hF4, D', n', hC4, hn4⟩
                        rw [Hta.out, HXr.out] at hn4
                        obtain ⟨hn5, hD0', hD8'⟩ := hn4 m' rfl
                        have Hn5 := Lib.hid hn5
                        rw [Hta.out, HXr.out]
                        clear hn4 hn5
                        go_wp2_with fail
                        exact ⟨⟨k + 1, D', m', by omega, by go_num, HF.out.trans (((((Fr.refl (two pd pw) wr).alloc _).below (below_drewN _ _)).setCell (.inr rfl) _).trans hF4), by rw [← Hn5.out]; exact hC4, hD0', hD8', hm', by rw [Hdd.out, hr', Hpk1.out]⟩, by simp [intOf]; omega⟩
                  · have p1 : decide ((0 : Int) < (k : Int)) = false := by simp; omega
                    have p2 : decide (0 < k) = false := by simp; omega
                    rw [show prevK x.keys k = none from if_pos (by omega), if_pos (by simp [keyOK]; omega)] at hdd
                    rcases hXr : wS (a.toNat + 1) (m + 1 + K.length) X with _ | m'
                    · rw [hXr] at hdd
                      change _ = none at hdd
                      have Hdd := Lib.hid hdd
                      have HXr := Lib.hid hXr
                      clear hdd hXr
                      go_wp2_with fail
                      go_quiet (fail)
                      go_wp2_with fail
                      go_region
                      go_wp2_with fail
                      refine (Hih.out X (by omega) _ (a + 1) D (m + 1 + K.length) ok _ (HRd.out.fr ((((Fr.refl (two pd pw) wr).alloc _).below (below_drewN _ _)).setCell (.inr rfl) _) (fun b _ hb h => by have := Hok.out b hb; rcases h with h | h <;> simp_all)) (by omega) (by omega) hD0 hD8 (by omega) (by rw [show ((m + 1 + K.length : Nat) : Int) = (m : Int) + (1 + (K.length : Int)) by omega]; exact ((HCk.out.alloc _).below (below_drewN _ _)).set2 hpp _) Hok.out hk1 hk2 ((HF.out.trans ((((Fr.refl (two pd pw) wr).alloc _).below (below_drewN _ _)).setCell (.inr rfl) _)).cell Hck3.out (fun h => by rcases h with h | h <;> simp_all))).mono ?_
                      rintro e w4 ⟨rfl, hF4, D', n', hC4, -⟩
                      rw [Hta.out, HXr.out]
                      go_wp2_with fail
                      go_ret
                      rw [Hdd.out]
                      exact ⟨rfl, HF3.out.trans (HF.out.trans (((((Fr.refl (two pd pw) wr).alloc _).below (below_drewN _ _)).setCell (.inr rfl) _).trans hF4)), D', n', hC4, fun m h => by cases h⟩
                    · rw [hXr] at hdd
                      change _ = wL _ _ _ _ _ _ at hdd
                      have Hdd := Lib.hid hdd
                      have HXr := Lib.hid hXr
                      have hm' := (wS_bound hXr).2
                      clear hdd hXr
                      go_wp2_with fail
                      go_quiet (fail)
                      go_wp2_with fail
                      go_region
                      go_wp2_with fail
                      refine (Hih.out X (by omega) _ (a + 1) D (m + 1 + K.length) ok _ (HRd.out.fr ((((Fr.refl (two pd pw) wr).alloc _).below (below_drewN _ _)).setCell (.inr rfl) _) (fun b _ hb h => by have := Hok.out b hb; rcases h with h | h <;> simp_all)) (by omega) (by omega) hD0 hD8 (by omega) (by rw [show ((m + 1 + K.length : Nat) : Int) = (m : Int) + (1 + (K.length : Int)) by omega]; exact ((HCk.out.alloc _).below (below_drewN _ _)).set2 hpp _) Hok.out hk1 hk2 ((HF.out.trans ((((Fr.refl (two pd pw) wr).alloc _).below (below_drewN _ _)).setCell (.inr rfl) _)).cell Hck3.out (fun h => by rcases h with h | h <;> simp_all))).mono ?_
                      rintro e w4 ⟨rfl, hF4, D', n', hC4, hn4⟩
                      rw [Hta.out, HXr.out] at hn4
                      obtain ⟨hn5, hD0', hD8'⟩ := hn4 m' rfl
                      have Hn5 := Lib.hid hn5
                      rw [Hta.out, HXr.out]
                      clear hn4 hn5
                      go_wp2_with fail
                      exact ⟨⟨k + 1, D', m', by omega, by go_num, HF.out.trans (((((Fr.refl (two pd pw) wr).alloc _).below (below_drewN _ _)).setCell (.inr rfl) _).trans hF4), by rw [← Hn5.out]; exact hC4, hD0', hD8', hm', by rw [Hdd.out, hr', Hpk1.out]⟩, by simp [intOf]; omega⟩
              · have hr' : (x.kind == 5) = false := by simpa using hr
                rw [hr', wL_row] at hdd
                rcases hXr : wS (a.toNat + 1) m X with _ | m'
                · rw [hXr] at hdd
                  change _ = none at hdd
                  have Hdd := Lib.hid hdd
                  have HXr := Lib.hid hXr
                  clear hdd hXr
                  go_wp2_with fail
                  refine (Hih.out X (by omega) _ (a + 1) D m ok _ (HRd.out.below ((Below.refl _ _).alloc (Nat.le_refl _) _)) (by omega) (by omega) hD0 hD8 (by omega) (HCk.out.alloc _) Hok.out hk1 hk2 (C5 _)).mono ?_
                  rintro e w4 ⟨rfl, hF4, D', n', hC4, -⟩
                  rw [Hta.out, HXr.out]
                  go_wp2_with fail
                  go_ret
                  rw [Hdd.out]
                  exact ⟨rfl, HF3.out.trans (HF.out.trans (((Fr.refl _ wr).alloc _).trans hF4)), D', n', hC4, fun m h => by cases h⟩
                · rw [hXr] at hdd
                  change _ = wL _ _ _ _ _ _ at hdd
                  have Hdd := Lib.hid hdd
                  have HXr := Lib.hid hXr
                  have hm' := (wS_bound hXr).2
                  clear hdd hXr
                  go_wp2_with fail
                  refine (Hih.out X (by omega) _ (a + 1) D m ok _ (HRd.out.below ((Below.refl _ _).alloc (Nat.le_refl _) _)) (by omega) (by omega) hD0 hD8 (by omega) (HCk.out.alloc _) Hok.out hk1 hk2 (C5 _)).mono ?_
                  rintro e w4 ⟨rfl, hF4, D', n', hC4, hn4⟩
                  rw [Hta.out, HXr.out] at hn4
                  obtain ⟨hn5, hD0', hD8'⟩ := hn4 m' rfl
                  have Hn5 := Lib.hid hn5
                  rw [Hta.out, HXr.out]
                  clear hn4 hn5
                  go_wp2_with fail
                  exact ⟨⟨k + 1, D', m', by omega, by go_num, HF.out.trans (((Fr.refl _ wr).alloc _).trans hF4), by rw [← Hn5.out]; exact hC4, hD0', hD8', hm', by rw [Hdd.out, hr']; exact wL_ks⟩, by simp [intOf]; omega⟩
            · have hRR := HR.out
              rw [List.drop_eq_nil_of_le (by omega), wL_nil] at hRR
              obtain ⟨C1, C2, C3, C4⟩ := HCk.out
              have HRR := Lib.hid hRR
              have hm2 : (m : Int) ≤ 2048 := by omega
              clear HR hRR
              go_wp2_with fail
              go_ret
              rw [HRR.out]
              exact ⟨rfl, HF3.out.trans HF.out, D, m, HCk.out, fun m' h => by injection h with h; exact ⟨by rw [h], hD0, hD8⟩⟩
      · have hp' : plainS x.kind x.num x.str x.parts.length x.keys.length = false := by simpa using hp
        rw [hp'] at hform
        have Hform := Lib.hid hform
        have Hnone : Hid (wS a.toNat n x = none) := by
          show _ = _
          rw [Hw.out, if_neg (fun h => hp h.1)]
        clear hform Hw
        go_enter Tryd.func85, Tryd.ntmps85
        go_wp2_with (go_at_call 86; refine (Hform.out _).mono ?_; rintro e w3 ⟨rfl, hb3⟩)
        all_goals go_ret
        all_goals rw [Hnone.out]
        all_goals exact ⟨rfl, (two_set ((Fr.refl _ _).alloc _) _ _).below hb3, _, _, ((((HC.out.alloc _).set1 hpp _).set2 hpp _).below hb3), fun m h => by cases h⟩
    · have Hnone : Hid (wS a.toNat n x = none) := by
        show _ = _
        rw [Hw.out, if_neg (fun h => hg h.2)]
      clear hform Hw
      have hor : 8 < a + 1 ∨ ((¬ 8 < a + 1) ∧ 2048 < (n : Int) + (1 + (x.str.length : Int))) := by omega
      rcases hor with h8 | ⟨h8, hnn⟩
      · go_enter Tryd.func85, Tryd.ntmps85
        go_wp2_with fail
        all_goals go_ret
        all_goals rw [Hnone.out]
        all_goals exact ⟨rfl, two_set ((Fr.refl _ _).alloc _) _ _, _, _, ((HC.out.alloc _).set1 hpp _).set2 hpp _, fun m h => by cases h⟩
      · go_enter Tryd.func85, Tryd.ntmps85
        go_wp2_with fail
        all_goals go_ret
        all_goals rw [Hnone.out]
        all_goals exact ⟨rfl, two_set ((Fr.refl _ _).alloc _) _ _, _, _, ((HC.out.alloc _).set1 hpp _).set2 hpp _, fun m h => by cases h⟩
end Go.Proofs.YthlfeiiolafonaaDoor
namespace Go.Proofs.YthlfeiiolafonaaDoor
open Go.RowKit Go.IntWalk

end Go.Proofs.YthlfeiiolafonaaDoor
namespace Go.Proofs.YthlfeiiolafonaaDoor
open Go.RowKit Go.IntWalk

/-- what the reference tells of a weight: 2049 of what is none -/
def wI : Option Nat → Nat
  | some w => w
  | none => 2049
theorem leq_run (a b : List UInt8) (W : World) : (Op.stringOp .leq ⟨b.toArray⟩ ⟨a.toArray⟩).run Tryd.prog W = .ok (.bool (!Op.bytesLess a b)) W := by
  rw [← leq_not_less a b]
  simp [Op.stringOp, ByteArray.toList_eq]
theorem rbox5 (w : World) (c0 c1 c2 c3 c4 : Value) (t : TypeId) : Five (w.alloc (.cells #[c0, c1, c2, c3, c4] t)) w.heap.size 0 (.agg #[c0, c1, c2, c3, c4]) :=
  ⟨c0, c1, c2, c3, c4, rfl, World.cell?_alloc_at _ _ _ _ rfl, World.cell?_alloc_at _ _ _ _ rfl, World.cell?_alloc_at _ _ _ _ rfl, World.cell?_alloc_at _ _ _ _ rfl, World.cell?_alloc_at _ _ _ _ rfl⟩
def prevR (ks : List (List UInt8)) (k : Nat) : Option (List UInt8) := if k = 0 then none else some (ks.getD (k - 1) [])
def WghPost (w : World) (r : Option Nat) (e : Ending) (w' : World) : Prop := e = .returned (.int .i64 (wI r : Int)) ∧ Below w.heap.size w w'
theorem plainS_len {kind n : Int} {s : List UInt8} {nl nk : Nat} (h : plainS kind n s nl nk = true) (hk : kind = 3) : nl = 0 := by
  subst hk
  simp [plainS] at h
  exact h.2.1
theorem plainS_bytes {kind n : Int} {s : List UInt8} {nl nk : Nat} (h : plainS kind n s nl nk = true) (hk : kind ≠ 3) : s = [] := by
  unfold plainS at h
  repeat' split at h
  all_goals simp_all

end Go.Proofs.YthlfeiiolafonaaDoor
namespace Go.Proofs.YthlfeiiolafonaaDoor
open Go.RowKit Go.IntWalk

def weightS (x : V) : Nat := (wS 0 0 x).getD 0
def MeasPost (w : World) (x : V) (e : Ending) (w' : World) : Prop := ∃ d : Int, e = .returned (.tuple #[.int .i64 (weightS x : Int), .int .i64 d]) ∧ Below w.heap.size w w'
theorem weight_bound (x : V) : weightS x ≤ 2048 := by
  unfold weightS
  cases h : wS 0 0 x with
  | none => simp
  | some m => have := (wS_bound h).2; simpa using this
theorem right_weight (x : V) : rightB x = decide (0 < weightS x) := by
  unfold rightB weightS
  cases h : wS 0 0 x with
  | none => simp
  | some m => have := (wS_bound h).1; simp; omega
theorem measure_start (w : World) (X : Obj) (F : Value) (t1 t2 t3 : TypeId) :
    Cnt ((((w.alloc X).alloc (.cells #[.int .i64 0] t1)).alloc (.cells #[.int .i64 0] t2)).alloc (.cells #[F] t3)) (w.heap.size + 1 + 1) (w.heap.size + 1) 0 0 ∧
    ((((w.alloc X).alloc (.cells #[.int .i64 0] t1)).alloc (.cells #[.int .i64 0] t2)).alloc (.cells #[F] t3)).cell? ⟨w.heap.size + 1 + 1 + 1, 0, none⟩ = some F ∧
    Below w.heap.size w ((((w.alloc X).alloc (.cells #[.int .i64 0] t1)).alloc (.cells #[.int .i64 0] t2)).alloc (.cells #[F] t3)) := by
  have b0 : ∀ (W : World) (O : Obj), Below W.heap.size W (W.alloc O) := fun W O => (Below.refl _ _).alloc (Nat.le_refl _) O
  have z1 : (w.alloc X).heap.size = w.heap.size + 1 := World.size_alloc _ _
  have z2 : ((w.alloc X).alloc (.cells #[.int .i64 0] t1)).heap.size = w.heap.size + 1 + 1 := by rw [World.size_alloc, z1]
  have z3 : (((w.alloc X).alloc (.cells #[.int .i64 0] t1)).alloc (.cells #[.int .i64 0] t2)).heap.size = w.heap.size + 1 + 1 + 1 := by rw [World.size_alloc, z2]
  have c1 : ((w.alloc X).alloc (.cells #[.int .i64 0] t1)).cell? ⟨w.heap.size + 1, 0, none⟩ = some (.int .i64 0) := by rw [← z1]; exact World.cell?_alloc_at _ _ _ _ rfl
  have f1 : ((w.alloc X).alloc (.cells #[.int .i64 0] t1)).frozen? ⟨w.heap.size + 1, 0, none⟩ = false := by rw [← z1]; exact World.frozen?_alloc_at _ _ _ _ rfl
  have c2 : (((w.alloc X).alloc (.cells #[.int .i64 0] t1)).alloc (.cells #[.int .i64 0] t2)).cell? ⟨w.heap.size + 1 + 1, 0, none⟩ = some (.int .i64 0) := by rw [← z2]; exact World.cell?_alloc_at _ _ _ _ rfl
  have f2 : (((w.alloc X).alloc (.cells #[.int .i64 0] t1)).alloc (.cells #[.int .i64 0] t2)).frozen? ⟨w.heap.size + 1 + 1, 0, none⟩ = false := by rw [← z2]; exact World.frozen?_alloc_at _ _ _ _ rfl
  have c3 : ((((w.alloc X).alloc (.cells #[.int .i64 0] t1)).alloc (.cells #[.int .i64 0] t2)).alloc (.cells #[F] t3)).cell? ⟨w.heap.size + 1 + 1 + 1, 0, none⟩ = some F := by rw [← z3]; exact World.cell?_alloc_at _ _ _ _ rfl
  have q1 := bcell (b0 _ (.cells #[.int .i64 0] t2)) c1
  have q2 := ((b0 _ (.cells #[.int .i64 0] t2)).frozen (p := ⟨w.heap.size + 1, 0, none⟩) (World.block_lt_of_cell? _ _ c1)).trans f1
  refine ⟨⟨bcell (b0 _ _) c2, bcell (b0 _ _) q1, ((b0 _ _).frozen (p := ⟨w.heap.size + 1 + 1, 0, none⟩) (World.block_lt_of_cell? _ _ c2)).trans f2, ((b0 _ _).frozen (p := ⟨w.heap.size + 1, 0, none⟩) (World.block_lt_of_cell? _ _ q1)).trans q2⟩, c3, ?_⟩
  exact (((((Below.refl _ _).alloc (Nat.le_refl _) _).alloc (by rw [z1]; omega) _).alloc (by rw [z2]; omega) _).alloc (by rw [z3]; omega) _)

set_option maxRecDepth 20000 in
set_option maxHeartbeats 400000 in
theorem value_measure (x : V) (v : Value) (ok : Nat → Prop) (w : World) (hv : RdV ok w v x) :
    Calls Tryd.prog 80 #[v] w (MeasPost w x) := by
  have hmf : ∀ (fn : Fn) (first cap : Array Value) (w : World), (Instr.makeFunc fn first cap).run Tryd.prog w = .ok (.func fn first cap) w := fun _ _ _ _ => rfl
  obtain ⟨A, c, B, d, rfl, _⟩ := hv.form
  have Hv := Lib.hid hv.lt
  clear hv
  go_enter Tryd.func80, Tryd.ntmps80
  go_wp2_with fail
  have hst := measure_start w (.cells #[.int .i64 x.kind, .int .i64 x.num, .string ⟨x.str.toArray⟩, .slice A x.parts.length c, .slice B x.keys.length d] 25) (.func (.func 85) #[] #[.pointer (some ⟨w.heap.size + 1 + 1, 0, none⟩), .pointer (some ⟨w.heap.size + 1, 0, none⟩), .pointer (some ⟨w.heap.size + 1 + 1 + 1, 0, none⟩)]) 3 3 97
  refine (measure_walk _ _ _ (by omega) _ x (Nat.le_refl _) _ 0 0 0 (fun b => ok b ∧ b < w.heap.size) _ (Hv.out.below hst.2.2) (by omega) (by omega) (by omega) (by omega) (by omega) hst.1 (fun b hb => by have := hb.2; omega) (by omega) (by omega) hst.2.1).mono ?_
  have Hb := Lib.hid hst.2.2
  clear hst
  rintro e w5 ⟨rfl, hF, D, n, ⟨c1, c2, _, _⟩, hn⟩
  have hBw : Below w.heap.size w w5 := hF.behind Hb.out (fun b hb h => by rcases h with h | h <;> omega)
  have HB := Lib.hid hBw
  clear hF hBw
  rw [show wS (0 : Int).toNat 0 x = wS 0 0 x from rfl] at *
  cases h : wS 0 0 x with
  | none =>
    have hw : weightS x = 0 := by simp [weightS, h]
    have Hw := Lib.hid hw
    clear hw h hn
    go_wp2_with fail
    go_ret2
    exact ⟨0, by rw [Hw.out]; rfl, HB.out⟩
  | some m =>
    have hw : weightS x = m := by simp [weightS, h]
    obtain ⟨rfl, _, _⟩ := hn m h
    have Hw := Lib.hid hw
    clear hw h hn
    go_wp2_with fail
    go_quiet (fail)
    go_wp2_with fail
    go_ret2
    exact ⟨D, by rw [Hw.out]; rfl, bthen HB.out (below_drewN _ _)⟩

set_option maxRecDepth 20000 in
set_option maxHeartbeats 400000 in
theorem value_Weight (x : V) (v : Value) (ok : Nat → Prop) (w : World) (hv : RdV ok w v x) :
    Calls Tryd.prog 67 #[v] w fun e w' => e = .returned (.int .i64 (weightS x : Int)) ∧ Below w.heap.size w w' := by
  obtain ⟨A, c, B, d, rfl, _⟩ := hv.form
  have Hv := Lib.hid hv
  clear hv
  go_enter Tryd.func67, Tryd.ntmps67
  go_wp2_with fail
  refine (value_measure x _ ok _ (Hv.out.below ((Below.refl _ _).alloc (Nat.le_refl _) _))).mono ?_
  rintro e w3 ⟨D, rfl, hb3⟩
  go_wp2_with fail
  go_ret
  exact ⟨rfl, bthen ((Below.refl _ _).alloc (Nat.le_refl _) _) hb3⟩
set_option maxRecDepth 20000 in
set_option maxHeartbeats 400000 in
theorem value_Right (x : V) (v : Value) (ok : Nat → Prop) (w : World) (hv : RdV ok w v x) :
    Calls Tryd.prog 51 #[v] w fun e w' => e = .returned (.bool (rightB x)) ∧ Below w.heap.size w w' := by
  obtain ⟨A, c, B, d, rfl, _⟩ := hv.form
  have Hv := Lib.hid hv
  have Hr := Lib.hid (right_weight x)
  clear hv
  go_enter Tryd.func51, Tryd.ntmps51
  go_wp2_with fail
  refine (value_Weight x _ ok _ (Hv.out.below ((Below.refl _ _).alloc (Nat.le_refl _) _))).mono ?_
  rintro e w3 ⟨rfl, hb3⟩
  go_wp2_with fail
  go_ret
  rw [Hr.out]
  exact ⟨by simp, bthen ((Below.refl _ _).alloc (Nat.le_refl _) _) hb3⟩
end Go.Proofs.YthlfeiiolafonaaDoor
