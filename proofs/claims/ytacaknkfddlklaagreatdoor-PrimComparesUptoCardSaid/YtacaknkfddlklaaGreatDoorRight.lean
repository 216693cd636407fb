/- Contracts of value.measure, Weight, Right, and of the reference's Right: both tell rightB. -/
import Derived.Test.YtacaknkfddlklaaGreatDoorMeasure
import Derived.Test.YtacaknkfddlklaaGreatDoorRefWeighed
import Derived.Test.YtacaknkfddlklaaGreatDoorValB
import Derived.Laws.EntriesVeiled
set_option linter.unusedVariables false
set_option linter.unusedSimpArgs false
namespace Go.Proofs.YtacaknkfddlklaaGreatDoor
open Go.RowKit Go.IntWalk

def weightS (x : V) : Nat := (wS 0 0 x).getD 0
def MeasPost (w : World) (x : V) (e : Ending) (w' : World) : Prop := ∃ d : Int, e = .returned (.tuple #[.int .i64 (weightS x : Int), .int .i64 d]) ∧ Below w.heap.size w w'
theorem weight_bound (x : V) : weightS x ≤ 2048 := by
  unfold weightS
  cases h : wS 0 0 x with
  | none => simp
  | some m => have := (wS_bound h).2; simpa using this
theorem right_weight (x : V) : rightB x = decide (0 < weightS x) := by
  unfold rightB weightS
  cases h : wS 0 0 x with
  | none => simp
  | some m => have := (wS_bound h).1; simp; omega
theorem measure_start (w : World) (X : Obj) (F : Value) (t1 t2 t3 : TypeId) :
    Cnt ((((w.alloc X).alloc (.cells #[.int .i64 0] t1)).alloc (.cells #[.int .i64 0] t2)).alloc (.cells #[F] t3)) (w.heap.size + 1 + 1) (w.heap.size + 1) 0 0 ∧
    ((((w.alloc X).alloc (.cells #[.int .i64 0] t1)).alloc (.cells #[.int .i64 0] t2)).alloc (.cells #[F] t3)).cell? ⟨w.heap.size + 1 + 1 + 1, 0, none⟩ = some F ∧
    Below w.heap.size w ((((w.alloc X).alloc (.cells #[.int .i64 0] t1)).alloc (.cells #[.int .i64 0] t2)).alloc (.cells #[F] t3)) := by
  have b0 : ∀ (W : World) (O : Obj), Below W.heap.size W (W.alloc O) := fun W O => (Below.refl _ _).alloc (Nat.le_refl _) O
  have z1 : (w.alloc X).heap.size = w.heap.size + 1 := World.size_alloc _ _
  have z2 : ((w.alloc X).alloc (.cells #[.int .i64 0] t1)).heap.size = w.heap.size + 1 + 1 := by rw [World.size_alloc, z1]
  have z3 : (((w.alloc X).alloc (.cells #[.int .i64 0] t1)).alloc (.cells #[.int .i64 0] t2)).heap.size = w.heap.size + 1 + 1 + 1 := by rw [World.size_alloc, z2]
  have c1 : ((w.alloc X).alloc (.cells #[.int .i64 0] t1)).cell? ⟨w.heap.size + 1, 0, none⟩ = some (.int .i64 0) := by rw [← z1]; exact World.cell?_alloc_at _ _ _ _ rfl
  have f1 : ((w.alloc X).alloc (.cells #[.int .i64 0] t1)).frozen? ⟨w.heap.size + 1, 0, none⟩ = false := by rw [← z1]; exact World.frozen?_alloc_at _ _ _ _ rfl
  have c2 : (((w.alloc X).alloc (.cells #[.int .i64 0] t1)).alloc (.cells #[.int .i64 0] t2)).cell? ⟨w.heap.size + 1 + 1, 0, none⟩ = some (.int .i64 0) := by rw [← z2]; exact World.cell?_alloc_at _ _ _ _ rfl
  have f2 : (((w.alloc X).alloc (.cells #[.int .i64 0] t1)).alloc (.cells #[.int .i64 0] t2)).frozen? ⟨w.heap.size + 1 + 1, 0, none⟩ = false := by rw [← z2]; exact World.frozen?_alloc_at _ _ _ _ rfl
  have c3 : ((((w.alloc X).alloc (.cells #[.int .i64 0] t1)).alloc (.cells #[.int .i64 0] t2)).alloc (.cells #[F] t3)).cell? ⟨w.heap.size + 1 + 1 + 1, 0, none⟩ = some F := by rw [← z3]; exact World.cell?_alloc_at _ _ _ _ rfl
  have q1 := bcell (b0 _ (.cells #[.int .i64 0] t2)) c1
  have q2 := ((b0 _ (.cells #[.int .i64 0] t2)).frozen (p := ⟨w.heap.size + 1, 0, none⟩) (World.block_lt_of_cell? _ _ c1)).trans f1
  refine ⟨⟨bcell (b0 _ _) c2, bcell (b0 _ _) q1, ((b0 _ _).frozen (p := ⟨w.heap.size + 1 + 1, 0, none⟩) (World.block_lt_of_cell? _ _ c2)).trans f2, ((b0 _ _).frozen (p := ⟨w.heap.size + 1, 0, none⟩) (World.block_lt_of_cell? _ _ q1)).trans q2⟩, c3, ?_⟩
  exact (((((Below.refl _ _).alloc (Nat.le_refl _) _).alloc (by rw [z1]; omega) _).alloc (by rw [z2]; omega) _).alloc (by rw [z3]; omega) _)

set_option maxRecDepth 20000 in
set_option maxHeartbeats 400000 in
theorem value_measure (x : V) (v : Value) (ok : Nat → Prop) (w : World) (hv : RdV ok w v x) :
    Calls Tryz.prog 97 #[v] w (MeasPost w x) := by
  have hmf : ∀ (fn : Fn) (first cap : Array Value) (w : World), (Instr.makeFunc fn first cap).run Tryz.prog w = .ok (.func fn first cap) w := fun _ _ _ _ => rfl
  obtain ⟨A, c, B, d, rfl, _⟩ := hv.form
  have Hv := Lib.hid hv.lt
  clear hv
  go_enter Tryz.func97, Tryz.ntmps97
  go_wp2_with fail
  have hst := measure_start w (.cells #[.int .i64 x.kind, .int .i64 x.num, .string ⟨x.str.toArray⟩, .slice A x.parts.length c, .slice B x.keys.length d] 25) (.func (.func 121) #[] #[.pointer (some ⟨w.heap.size + 1 + 1, 0, none⟩), .pointer (some ⟨w.heap.size + 1, 0, none⟩), .pointer (some ⟨w.heap.size + 1 + 1 + 1, 0, none⟩)]) 3 3 111
  refine (measure_walk _ _ _ (by omega) _ x (Nat.le_refl _) _ 0 0 0 (fun b => ok b ∧ b < w.heap.size) _ (Hv.out.below hst.2.2) (by omega) (by omega) (by omega) (by omega) (by omega) hst.1 (fun b hb => by have := hb.2; omega) (by omega) (by omega) hst.2.1).mono ?_
  have Hb := Lib.hid hst.2.2
  clear hst
  rintro e w5 ⟨rfl, hF, D, n, ⟨c1, c2, _, _⟩, hn⟩
  have hBw : Below w.heap.size w w5 := hF.behind Hb.out (fun b hb h => by rcases h with h | h <;> omega)
  have HB := Lib.hid hBw
  clear hF hBw
  rw [show wS (0 : Int).toNat 0 x = wS 0 0 x from rfl] at *
  cases h : wS 0 0 x with
  | none =>
    have hw : weightS x = 0 := by simp [weightS, h]
    have Hw := Lib.hid hw
    clear hw h hn
    go_wp2_with fail
    go_ret2
    exact ⟨0, by rw [Hw.out]; rfl, HB.out⟩
  | some m =>
    have hw : weightS x = m := by simp [weightS, h]
    obtain ⟨rfl, _, _⟩ := hn m h
    have Hw := Lib.hid hw
    clear hw h hn
    go_wp2_with fail
    go_quiet (fail)
    go_wp2_with fail
    go_ret2
    exact ⟨D, by rw [Hw.out]; rfl, bthen HB.out (below_drewN _ _)⟩

set_option maxRecDepth 20000 in
set_option maxHeartbeats 400000 in
theorem ref_Right (x : V) (v : Value) (ok : Nat → Prop) (w : World) (hv : RdV ok w v x) :
    Calls Tryz.prog 26 #[v] w fun e w' => e = .returned (.bool (rightB x)) ∧ Below w.heap.size w w' := by
  obtain ⟨A, c, B, d, rfl, _⟩ := hv.form
  have Hv := Lib.hid hv
  clear hv
  go_enter Tryz.func26, Tryz.ntmps26
  go_wp2_with fail
  refine (ref_weighed _ x (Nat.le_refl _) _ 0 0 ok _ (Hv.out.below ((Below.refl _ _).alloc (Nat.le_refl _) _)) (by omega) (by omega) (by omega) (by omega)).mono ?_
  rintro e w3 ⟨rfl, hb3⟩
  rw [show wS (0 : Int).toNat (0 : Int).toNat x = wS 0 0 x from rfl]
  cases h : wS 0 0 x with
  | none =>
    have hr : rightB x = false := by simp [rightB, h]
    have Hr := Lib.hid hr
    clear hr h
    go_wp2_with fail
    go_ret
    rw [Hr.out]
    exact ⟨rfl, bthen ((Below.refl _ _).alloc (Nat.le_refl _) _) hb3⟩
  | some m =>
    have hm := (wS_bound h).2
    have hr : rightB x = true := by simp [rightB, h]
    have hmI : (m : Int) ≤ 2048 := by omega
    have Hr := Lib.hid hr
    clear hr h
    simp only [wI]
    go_wp2_with fail
    go_ret
    rw [Hr.out]
    exact ⟨rfl, bthen ((Below.refl _ _).alloc (Nat.le_refl _) _) hb3⟩

set_option maxRecDepth 20000 in
set_option maxHeartbeats 400000 in
theorem value_Weight (x : V) (v : Value) (ok : Nat → Prop) (w : World) (hv : RdV ok w v x) :
    Calls Tryz.prog 42 #[v] w fun e w' => e = .returned (.int .i64 (weightS x : Int)) ∧ Below w.heap.size w w' := by
  obtain ⟨A, c, B, d, rfl, _⟩ := hv.form
  have Hv := Lib.hid hv
  clear hv
  go_enter Tryz.func42, Tryz.ntmps42
  go_wp2_with fail
  refine (value_measure x _ ok _ (Hv.out.below ((Below.refl _ _).alloc (Nat.le_refl _) _))).mono ?_
  rintro e w3 ⟨D, rfl, hb3⟩
  go_wp2_with fail
  go_ret
  exact ⟨rfl, bthen ((Below.refl _ _).alloc (Nat.le_refl _) _) hb3⟩
set_option maxRecDepth 20000 in
set_option maxHeartbeats 400000 in
theorem value_Right (x : V) (v : Value) (ok : Nat → Prop) (w : World) (hv : RdV ok w v x) :
    Calls Tryz.prog 22 #[v] w fun e w' => e = .returned (.bool (rightB x)) ∧ Below w.heap.size w w' := by
  obtain ⟨A, c, B, d, rfl, _⟩ := hv.form
  have Hv := Lib.hid hv
  have Hr := Lib.hid (right_weight x)
  clear hv
  go_enter Tryz.func22, Tryz.ntmps22
  go_wp2_with fail
  refine (value_Weight x _ ok _ (Hv.out.below ((Below.refl _ _).alloc (Nat.le_refl _) _))).mono ?_
  rintro e w3 ⟨rfl, hb3⟩
  go_wp2_with fail
  go_ret
  rw [Hr.out]
  exact ⟨by simp, bthen ((Below.refl _ _).alloc (Nat.le_refl _) _) hb3⟩
end Go.Proofs.YtacaknkfddlklaaGreatDoor
