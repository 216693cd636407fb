/- Contracts of strings.Compare, cmp.Compare, cmp.Or. Contract of value.order. -/
import Derived.Test.YtacaknkfddlklaaGreatDoorProg
import Derived.Lib.Strings
import Derived.Lib.Slices
import Derived.Lib.Walk
import Derived.Lib.Bytealg
import Derived.Lib.Hide
import Derived.WalkKit
import Derived.Test.YtacaknkfddlklaaGreatDoorTakesB
import Derived.Test.YtacaknkfddlklaaGreatDoorJoinB
set_option linter.unusedVariables false
set_option linter.unusedSimpArgs false
namespace Go.Proofs.YtacaknkfddlklaaGreatDoor
open Go.RowKit Go.IntWalk

def cmpI (a b : Int) : Int := if a < b then -1 else if b < a then 1 else 0
theorem cmpI_zero {a b : Int} : cmpI a b = 0 ↔ a = b := by
  unfold cmpI
  split
  · constructor <;> intro h <;> omega
  · split <;> constructor <;> intro h <;> omega
theorem cmpT_zero : ∀ {a b : List UInt8}, Lib.compareBytes a b = 0 ↔ a = b
  | [], [] => by simp [Lib.compareBytes]
  | [], _ :: _ => by simp [Lib.compareBytes]
  | _ :: _, [] => by simp [Lib.compareBytes]
  | x :: a, y :: b => by
    unfold Lib.compareBytes
    split
    · rename_i h
      constructor
      · intro h'; cases h'
      · intro h'; injection h' with h1 _; subst h1; exact absurd h (UInt8.lt_irrefl _)
    · split
      · rename_i h
        constructor
        · intro h'; cases h'
        · intro h'; injection h' with h1 _; subst h1; exact absurd h (UInt8.lt_irrefl _)
      · rename_i h1 h2
        have hxy : x = y := UInt8.le_antisymm (UInt8.not_lt.1 h2) (UInt8.not_lt.1 h1)
        subst hxy
        rw [cmpT_zero (a := a) (b := b)]
        simp
theorem cmpT_small : ∀ (a b : List UInt8), -1 ≤ Lib.compareBytes a b ∧ Lib.compareBytes a b ≤ 1
  | [], [] => by simp [Lib.compareBytes]
  | [], _ :: _ => by simp [Lib.compareBytes]
  | _ :: _, [] => by simp [Lib.compareBytes]
  | x :: a, y :: b => by
    unfold Lib.compareBytes
    split
    · omega
    · split
      · omega
      · exact cmpT_small a b
theorem cmpI_small (a b : Int) : -1 ≤ cmpI a b ∧ cmpI a b ≤ 1 := by unfold cmpI; split <;> (try split) <;> omega
def orI (a b : Int) : Int := if a = 0 then b else a
set_option maxHeartbeats 1000000 in
set_option maxRecDepth 100000 in
theorem bytealg_cmp (a b : ByteArray) (w : World) :
    Calls Tryz.prog 151 #[.string a, .string b] w fun e w' => e = .returned (.int .i64 (Lib.compareBytes a.data.toList b.data.toList)) ∧ w' = w := by
  go_enter Tryz.func151, Tryz.ntmps151
  go_wp2
  rw [run_callFunc_extern Tryz.func165 (by kernel_rfl) (by kernel_rfl) (by kernel_rfl) (e := Extern.BytealgCompare.compare) (by kernel_rfl), Lib.run_compareString]
  simp only [Result.andThen]
  rw [Oper.upon_value]
  go_wp2
  go_ret
  exact ⟨rfl, rfl⟩
set_option maxHeartbeats 1000000 in
theorem str_Compare (a b : ByteArray) (w : World) :
    Calls Tryz.prog 129 #[.string a, .string b] w fun e w' => e = .returned (.int .i64 (Lib.compareBytes a.data.toList b.data.toList)) ∧ w' = w := by
  go_enter Tryz.func129, Tryz.ntmps129
  go_wp2_with (go_at_call 151; refine (bytealg_cmp _ _ _).mono ?_; rintro e w' ⟨rfl, rfl⟩)
  go_ret
  exact ⟨rfl, rfl⟩
set_option maxHeartbeats 1000000 in
theorem nan_int (a : Int) (w : World) : Calls Tryz.prog 149 #[.int .i64 a] w fun e w' => e = .returned (.bool false) ∧ w' = w := by
  have g0 : (a != a) = false := by simp
  go_enter Tryz.func149, Tryz.ntmps149
  go_wp2
  go_ret
  exact ⟨ret_bool (by simp), rfl⟩
set_option maxHeartbeats 1000000 in
theorem nan_int64 (a : Int) (w : World) : Calls Tryz.prog 150 #[.int .i64 a] w fun e w' => e = .returned (.bool false) ∧ w' = w := by
  have g0 : (a != a) = false := by simp
  go_enter Tryz.func150, Tryz.ntmps150
  go_wp2
  go_ret
  exact ⟨ret_bool (by simp), rfl⟩
set_option maxHeartbeats 1000000 in
theorem cmp_int (a b : Int) (w : World) : Calls Tryz.prog 127 #[.int .i64 a, .int .i64 b] w fun e w' => e = .returned (.int .i64 (cmpI a b)) ∧ w' = w := by
  go_enter Tryz.func127, Tryz.ntmps127
  go_wp2_with fail
  refine (nan_int _ _).mono ?_
  rintro e w' ⟨rfl, rfl⟩
  go_wp2_with fail
  refine (nan_int _ _).mono ?_
  rintro e w' ⟨rfl, rfl⟩
  go_wp2_with fail
  all_goals go_ret
  all_goals refine ⟨ret_i64 ?_, rfl⟩
  all_goals unfold cmpI
  all_goals repeat' split
  all_goals omega
set_option maxHeartbeats 1000000 in
theorem cmp_int64 (a b : Int) (w : World) : Calls Tryz.prog 128 #[.int .i64 a, .int .i64 b] w fun e w' => e = .returned (.int .i64 (cmpI a b)) ∧ w' = w := by
  go_enter Tryz.func128, Tryz.ntmps128
  go_wp2_with fail
  refine (nan_int64 _ _).mono ?_
  rintro e w' ⟨rfl, rfl⟩
  go_wp2_with fail
  refine (nan_int64 _ _).mono ?_
  rintro e w' ⟨rfl, rfl⟩
  go_wp2_with fail
  all_goals go_ret
  all_goals refine ⟨ret_i64 ?_, rfl⟩
  all_goals unfold cmpI
  all_goals repeat' split
  all_goals omega
set_option maxHeartbeats 1000000 in
theorem cmp_or3 (a b c : Int) (g d : Nat) (w : World) (h0 : w.cell? ⟨g, 0, none⟩ = some (.int .i64 a)) (h1 : w.cell? ⟨g, 1, none⟩ = some (.int .i64 b)) (h2 : w.cell? ⟨g, 2, none⟩ = some (.int .i64 c)) :
    Calls Tryz.prog 126 #[.slice (some ⟨g, 0, none⟩) 3 d] w fun e w' => e = .returned (.int .i64 (orI a (orI b c))) ∧ w' = w := by
  go_enter Tryz.func126, Tryz.ntmps126
  go_wp2_with fail
  go_loopw [8] (fun i wr => ∃ k : Nat, k ≤ 3 ∧ i = .int .i64 k ∧ wr = w ∧ (0 < k → a = 0) ∧ (1 < k → b = 0) ∧ (2 < k → c = 0)) (fun i _ => 3 - (intOf i).toNat)
  case atStart => exact ⟨0, by omega, rfl, rfl, by omega, by omega, by omega⟩
  case round =>
    obtain ⟨k, hk, rfl, rfl, r0, r1, r2⟩ := hrel
    have R0 := Lib.hid r0
    have R1 := Lib.hid r1
    have R2 := Lib.hid r2
    clear r0 r1 r2
    have hk3 : k = 0 ∨ k = 1 ∨ k = 2 ∨ k = 3 := by omega
    rcases hk3 with rfl | rfl | rfl | rfl
    · have z0 : ((0 : Nat) : Int) = 0 := rfl
      by_cases hx : a = 0
      · have g0 : (a != 0) = false := by simpa using hx
        have Hx := Lib.hid hx
        clear hx
        go_wp2_with fail
        exact ⟨⟨1, by omega, by go_num, trivial, fun _ => Hx.out, by omega, by omega⟩, by simp [intOf]⟩
      · have g0 : (a != 0) = true := by simpa using hx
        have Hx := Lib.hid hx
        clear hx
        go_wp2_with fail
        go_ret
        exact ⟨ret_i64 (by simp [orI, Hx.out]), rfl⟩
    · have z0 : ((1 : Nat) : Int) = 1 := rfl
      by_cases hx : b = 0
      · have g0 : (b != 0) = false := by simpa using hx
        have Hx := Lib.hid hx
        clear hx
        go_wp2_with fail
        exact ⟨⟨2, by omega, by go_num, trivial, fun _ => R0.out (by omega), fun _ => Hx.out, by omega⟩, by simp [intOf]⟩
      · have g0 : (b != 0) = true := by simpa using hx
        have Hx := Lib.hid hx
        clear hx
        go_wp2_with fail
        go_ret
        exact ⟨ret_i64 (by simp [orI, R0.out (by omega), Hx.out]), rfl⟩
    · have z0 : ((2 : Nat) : Int) = 2 := rfl
      by_cases hx : c = 0
      · have g0 : (c != 0) = false := by simpa using hx
        have Hx := Lib.hid hx
        clear hx
        go_wp2_with fail
        exact ⟨⟨3, by omega, by go_num, trivial, fun _ => R0.out (by omega), fun _ => R1.out (by omega), fun _ => Hx.out⟩, by simp [intOf]⟩
      · have g0 : (c != 0) = true := by simpa using hx
        have Hx := Lib.hid hx
        clear hx
        go_wp2_with fail
        go_ret
        exact ⟨ret_i64 (by simp [orI, R0.out (by omega), R1.out (by omega), Hx.out]), rfl⟩
    · have z0 : ((3 : Nat) : Int) = 3 := rfl
      go_wp2_with fail
      go_ret
      exact ⟨ret_i64 (by simp [orI, R0.out (by omega), R1.out (by omega), R2.out (by omega)]), rfl⟩
set_option maxHeartbeats 1000000 in
theorem cmp_or2 (a b : Int) (g d : Nat) (w : World) (h0 : w.cell? ⟨g, 0, none⟩ = some (.int .i64 a)) (h1 : w.cell? ⟨g, 1, none⟩ = some (.int .i64 b)) :
    Calls Tryz.prog 126 #[.slice (some ⟨g, 0, none⟩) 2 d] w fun e w' => e = .returned (.int .i64 (orI a b)) ∧ w' = w := by
  go_enter Tryz.func126, Tryz.ntmps126
  go_wp2_with fail
  go_loopw [8] (fun i wr => ∃ k : Nat, k ≤ 2 ∧ i = .int .i64 k ∧ wr = w ∧ (0 < k → a = 0) ∧ (1 < k → b = 0)) (fun i _ => 2 - (intOf i).toNat)
  case atStart => exact ⟨0, by omega, rfl, rfl, by omega, by omega⟩
  case round =>
    obtain ⟨k, hk, rfl, rfl, r0, r1⟩ := hrel
    have R0 := Lib.hid r0
    have R1 := Lib.hid r1
    clear r0 r1
    have hk3 : k = 0 ∨ k = 1 ∨ k = 2 := by omega
    rcases hk3 with rfl | rfl | rfl
    · have z0 : ((0 : Nat) : Int) = 0 := rfl
      by_cases hx : a = 0
      · have g0 : (a != 0) = false := by simpa using hx
        have Hx := Lib.hid hx
        clear hx
        go_wp2_with fail
        exact ⟨⟨1, by omega, by go_num, trivial, fun _ => Hx.out, by omega⟩, by simp [intOf]⟩
      · have g0 : (a != 0) = true := by simpa using hx
        have Hx := Lib.hid hx
        clear hx
        go_wp2_with fail
        go_ret
        exact ⟨ret_i64 (by simp [orI, Hx.out]), rfl⟩
    · have z0 : ((1 : Nat) : Int) = 1 := rfl
      by_cases hx : b = 0
      · have g0 : (b != 0) = false := by simpa using hx
        have Hx := Lib.hid hx
        clear hx
        go_wp2_with fail
        exact ⟨⟨2, by omega, by go_num, trivial, fun _ => R0.out (by omega), fun _ => Hx.out⟩, by simp [intOf]⟩
      · have g0 : (b != 0) = true := by simpa using hx
        have Hx := Lib.hid hx
        clear hx
        go_wp2_with fail
        go_ret
        exact ⟨ret_i64 (by simp [orI, R0.out (by omega), Hx.out]), rfl⟩
    · have z0 : ((2 : Nat) : Int) = 2 := rfl
      go_wp2_with fail
      go_ret
      exact ⟨ret_i64 (by simp [orI, R0.out (by omega), R1.out (by omega)]), rfl⟩
end Go.Proofs.YtacaknkfddlklaaGreatDoor
namespace Go.Proofs.YtacaknkfddlklaaGreatDoor
open Go.RowKit Go.IntWalk

mutual
/-- the order of values -/
def ordS : V → V → Int
  | .mk k n s l ks, .mk k' n' s' l' ks' =>
    orI (if orI (cmpI k k') (orI (cmpI n n') (Lib.compareBytes s s')) = 0 then ordL (decide (k = 5)) l l' ks ks' else orI (cmpI k k') (orI (cmpI n n') (Lib.compareBytes s s'))) (cmpI l.length l'.length)
def ordL (r : Bool) : List V → List V → List (List UInt8) → List (List UInt8) → Int
  | x :: l, y :: l', ks, ks' =>
    if (if r = true then Lib.compareBytes (ks.headD []) (ks'.headD []) else 0) = 0 then
      (if ordS x y = 0 then ordL r l l' ks.tail ks'.tail else ordS x y)
    else (if r = true then Lib.compareBytes (ks.headD []) (ks'.headD []) else 0)
  | [], _, _, _ => 0
  | _ :: _, [], _, _ => 0
end
/-- right, at some depth -/
def Rightish (X : V) : Prop := ∃ a b, (wS a b X).isSome = true
theorem rightish_of {X : V} (h : rightB X = true) : Rightish X := ⟨0, 0, h⟩
theorem wL_parts {around : Nat} {r : Bool} : ∀ {l : List V} {p : Option (List UInt8)} {w : Nat} {ks : List (List UInt8)}, (wL around r p w l ks).isSome = true → ∀ i (h : i < l.length), Rightish l[i]
  | [], p, w, ks, h, i, hi => absurd hi (by simp)
  | x :: l, p, w, ks, h, i, hi => by
    unfold wL at h
    split at h
    · split at h
      · cases h
      · split at h
        · split at h
          · rename_i w1 h1
            cases i with
            | zero => exact ⟨_, _, by rw [List.getElem_cons_zero, h1]; rfl⟩
            | succ i => exact wL_parts h i (by simpa using hi)
          · cases h
        · cases h
    · split at h
      · rename_i w1 h1
        cases i with
        | zero => exact ⟨_, _, by rw [List.getElem_cons_zero, h1]; rfl⟩
        | succ i => exact wL_parts h i (by simpa using hi)
      · cases h
theorem Rightish.plain {X : V} (h : Rightish X) : plainS X.kind X.num X.str X.parts.length X.keys.length = true ∧ ∀ i (hi : i < X.parts.length), Rightish X.parts[i] := by
  obtain ⟨a, b, h⟩ := h
  cases X with
  | mk kind n s l k =>
    unfold wS at h
    split at h
    · rename_i hc
      exact ⟨hc.1, wL_parts h⟩
    · cases h
theorem Rightish.keys {X : V} (h : Rightish X) (hk : X.kind = 5) : X.keys.length = X.parts.length := by
  have hp := h.plain.1
  rw [hk] at hp
  simp [plainS] at hp
  exact hp.2.2
/-- with texts as lists -/
theorem str_cmpL (a b : List UInt8) (w : World) :
    Calls Tryz.prog 129 #[.string ⟨a.toArray⟩, .string ⟨b.toArray⟩] w fun e w' => e = .returned (.int .i64 (Lib.compareBytes a b)) ∧ w' = w := str_Compare ⟨a.toArray⟩ ⟨b.toArray⟩ w
theorem or3_new (a b c : Int) (W : World) (t : TypeId) {g : Nat} (hg : g = W.heap.size) :
    Calls Tryz.prog 126 #[.slice (some ⟨g, 0, none⟩) 3 3] ((W.alloc (.cells #[.int .i64 a, .int .i64 b, .int .i64 c] t)).drew) fun e w' => e = .returned (.int .i64 (orI a (orI b c))) ∧ w' = (W.alloc (.cells #[.int .i64 a, .int .i64 b, .int .i64 c] t)).drew := by
  subst hg
  exact cmp_or3 a b c _ 3 _ (World.cell?_alloc_at _ _ _ _ rfl) (World.cell?_alloc_at _ _ _ _ rfl) (World.cell?_alloc_at _ _ _ _ rfl)
theorem or2_new (a b : Int) (W : World) (t : TypeId) {g : Nat} (hg : g = W.heap.size) :
    Calls Tryz.prog 126 #[.slice (some ⟨g, 0, none⟩) 2 2] (W.alloc (.cells #[.int .i64 a, .int .i64 b] t)) fun e w' => e = .returned (.int .i64 (orI a b)) ∧ w' = W.alloc (.cells #[.int .i64 a, .int .i64 b] t) := by
  subst hg
  exact cmp_or2 a b _ 2 _ (World.cell?_alloc_at _ _ _ _ rfl) (World.cell?_alloc_at _ _ _ _ rfl)
def headC (X Y : V) : Int := orI (cmpI X.kind Y.kind) (orI (cmpI X.num Y.num) (Lib.compareBytes X.str Y.str))
theorem ordS_eq (X Y : V) : ordS X Y = orI (if headC X Y = 0 then ordL (decide (X.kind = 5)) X.parts Y.parts X.keys Y.keys else headC X Y) (cmpI X.parts.length Y.parts.length) := by
  cases X; cases Y; rw [ordS]; rfl
/-- what the loop makes -/
abbrev totS (X Y : V) : Int := if headC X Y = 0 then ordL (decide (X.kind = 5)) X.parts Y.parts X.keys Y.keys else headC X Y
theorem ordL_nil1 (r : Bool) (l : List V) (k k' : List (List UInt8)) : ordL r [] l k k' = 0 := by cases l <;> rw [ordL]
theorem ordL_nil2 (r : Bool) (l : List V) (k k' : List (List UInt8)) : ordL r l [] k k' = 0 := by cases l <;> rw [ordL]
theorem head_kind {X Y : V} (h : headC X Y = 0) : X.kind = Y.kind := by
  unfold headC orI at h
  split at h
  · exact cmpI_zero.1 (by assumption)
  · exact absurd h (by assumption)
theorem headD_drop {α : Type} {l : List (List α)} {k : Nat} (h : k < l.length) : (l.drop k).headD [] = l[k] := by
  rw [List.drop_eq_getElem_cons h]; rfl
theorem tail_drop {α : Type} (l : List α) (k : Nat) : (l.drop k).tail = l.drop (k + 1) := by rw [List.tail_drop]
theorem step_rec {X Y : V} {k : Nat} (h1 : k < X.parts.length) (h2 : k < Y.parts.length) (h3 : k < X.keys.length) (h4 : k < Y.keys.length) :
    ordL true (X.parts.drop k) (Y.parts.drop k) (X.keys.drop k) (Y.keys.drop k) = if Lib.compareBytes X.keys[k] Y.keys[k] = 0 then (if ordS X.parts[k] Y.parts[k] = 0 then ordL true (X.parts.drop (k + 1)) (Y.parts.drop (k + 1)) (X.keys.drop (k + 1)) (Y.keys.drop (k + 1)) else ordS X.parts[k] Y.parts[k]) else Lib.compareBytes X.keys[k] Y.keys[k] := by
  rw [List.drop_eq_getElem_cons h1, List.drop_eq_getElem_cons h2, ordL, headD_drop h3, headD_drop h4, tail_drop, tail_drop, if_pos rfl]
theorem step_row {X Y : V} {k : Nat} (h1 : k < X.parts.length) (h2 : k < Y.parts.length) :
    ordL false (X.parts.drop k) (Y.parts.drop k) (X.keys.drop k) (Y.keys.drop k) = if ordS X.parts[k] Y.parts[k] = 0 then ordL false (X.parts.drop (k + 1)) (Y.parts.drop (k + 1)) (X.keys.drop (k + 1)) (Y.keys.drop (k + 1)) else ordS X.parts[k] Y.parts[k] := by
  rw [List.drop_eq_getElem_cons h1, List.drop_eq_getElem_cons h2, ordL, tail_drop, tail_drop]
  simp only [Bool.false_eq_true, if_false, if_true]
set_option maxRecDepth 20000 in
set_option maxHeartbeats 4000000 in
theorem value_order (m : Nat) : ∀ (X Y : V) (v1 v2 : Value) (ok1 ok2 : Nat → Prop) (w : World) (h1 : RdV ok1 w v1 X) (h2 : RdV ok2 w v2 Y) (hX : Rightish X) (hY : Rightish Y) (hm : SizeOf.sizeOf X ≤ m),
    Calls Tryz.prog 105 #[v1, v2] w fun e w' => e = .returned (.int .i64 (ordS X Y)) ∧ Below w.heap.size w w' := by
  induction m using Nat.strongRecOn with
  | _ m ih =>
  intro X Y v1 v2 ok1 ok2 w hv1 hv2 hX hY hm
  obtain ⟨A1, c1, B1, d1, rfl, _, _, _, _, h5, h6, _⟩ := hv1.form
  obtain ⟨A2, c2, B2, d2, rfl, _, _, _, _, h7, h8, _⟩ := hv2.form
  obtain ⟨_, _, _, lv, kv, hvv, _, hl1, hk1⟩ := hv1.open
  injection hvv with hvv
  simp only [Array.mk.injEq, List.cons.injEq, and_true, true_and] at hvv
  obtain ⟨rfl, rfl⟩ := hvv
  obtain ⟨_, _, _, lv, kv, hvv, _, hl2, hk2⟩ := hv2.open
  injection hvv with hvv
  simp only [Array.mk.injEq, List.cons.injEq, and_true, true_and] at hvv
  obtain ⟨rfl, rfl⟩ := hvv
  have HK1 := Lib.hid hk1
  have HK2 := Lib.hid hk2
  have HL1 := Lib.hid hl1
  have HL2 := Lib.hid hl2
  have HRX := Lib.hid hX
  have HRY := Lib.hid hY
  have HB := Lib.hid (two_boxes w (.int .i64 X.kind) (.int .i64 X.num) (.string ⟨X.str.toArray⟩) (.slice A1 X.parts.length c1) (.slice B1 X.keys.length d1) (.int .i64 Y.kind) (.int .i64 Y.num) (.string ⟨Y.str.toArray⟩) (.slice A2 Y.parts.length c2) (.slice B2 Y.keys.length d2))
  have HW := Lib.hid (two_alloc w (.cells #[.int .i64 X.kind, .int .i64 X.num, .string ⟨X.str.toArray⟩, .slice A1 X.parts.length c1, .slice B1 X.keys.length d1] 25) (.cells #[.int .i64 Y.kind, .int .i64 Y.num, .string ⟨Y.str.toArray⟩, .slice A2 Y.parts.length c2, .slice B2 Y.keys.length d2] 25))
  have HS := Lib.hid (SameSt.mk (v1 := valV X A1 c1 B1 d1) (v2 := valV Y A2 c2 B2 d2) HB.out.1 HB.out.2 HW.out)
  have Hih := Lib.hid ih
  have HE := Lib.hid (ordS_eq X Y)
  clear hv1 hv2 hl1 hl2 hk1 hk2 ih hX hY
  obtain ⟨p0, p1, p2, p3, p4⟩ := HS.out.one.get
  obtain ⟨q0, q1, q2, q3, q4⟩ := HS.out.two.get
  go_enter Tryz.func105, Tryz.ntmps105
  go_wp2_with fail
  go_upto_region 1 with fail
  go_cut [5] (fun c wx => c = .int .i64 (headC X Y) ∧ SameSt w (valV X A1 c1 B1 d1) (valV Y A2 c2 B2 d2) wx)
  case first =>
    go_region_held3 (fun w' => w'.cell? ⟨w.heap.size, 0, none⟩ = some (.int .i64 X.kind) ∧ w'.cell? ⟨w.heap.size, 1, none⟩ = some (.int .i64 X.num) ∧ w'.cell? ⟨w.heap.size, 2, none⟩ = some (.string ⟨X.str.toArray⟩) ∧ w'.cell? ⟨w.heap.size + 1, 0, none⟩ = some (.int .i64 Y.kind) ∧ w'.cell? ⟨w.heap.size + 1, 1, none⟩ = some (.int .i64 Y.num) ∧ w'.cell? ⟨w.heap.size + 1, 2, none⟩ = some (.string ⟨Y.str.toArray⟩))
      ((first | assumption | go_keep)) (first
      | (go_at_call 127; refine (cmp_int _ _ _).mono ?_; rintro e w' ⟨rfl, rfl⟩)
      | (go_at_call 128; refine (cmp_int64 _ _ _).mono ?_; rintro e w' ⟨rfl, rfl⟩)
      | (go_at_call 129; refine (str_cmpL _ _ _).mono ?_; rintro e w' ⟨rfl, rfl⟩)
      | (go_at_call 126; refine (or3_new _ _ _ _ _ (by simp)).mono ?_; rintro e w' ⟨rfl, rfl⟩))
    all_goals go_wp2_with fail
    all_goals go_meet
    all_goals exact ⟨rfl, HS.out.below (one_b _ _).drew⟩
  case rest =>
    obtain ⟨rfl, hI0⟩ := hcut
    have HI0 := Lib.hid hI0
    clear hI0 p0 p1 p2 p3 p4 q0 q1 q2 q3 q4
    go_wp2_with fail
    go_loopw [5, 6] (fun c i wr => ∃ (k : Nat) (cc : Int), c = .int .i64 cc ∧ i = .int .i64 k ∧ k ≤ X.parts.length ∧ k ≤ Y.parts.length ∧ (cc = 0 → X.kind = Y.kind) ∧ (if cc = 0 then ordL (decide (X.kind = 5)) (X.parts.drop k) (Y.parts.drop k) (X.keys.drop k) (Y.keys.drop k) else cc) = totS X Y ∧ SameSt w (valV X A1 c1 B1 d1) (valV Y A2 c2 B2 d2) wr) (fun c i _ => X.parts.length - (intOf i).toNat)
    case atStart => exact ⟨0, _, rfl, rfl, Nat.zero_le _, Nat.zero_le _, head_kind, rfl, HI0.out⟩
    case round =>
      obtain ⟨k, cc, rfl, rfl, hk1, hk2, hkk, htot, hI⟩ := hrel
      have HI := Lib.hid hI
      have HT := Lib.hid htot
      obtain ⟨p0, p1, p2, p3, p4⟩ := hI.one.get
      obtain ⟨q0, q1, q2, q3, q4⟩ := hI.two.get
      by_cases hcc : cc = 0
      · subst hcc
        have hkind := hkk rfl
        by_cases hlt1 : k < X.parts.length
        · by_cases hlt2 : k < Y.parts.length
          · have hlA : (k : Int) < (X.parts.length : Int) := by omega
            have hlB : (k : Int) < (Y.parts.length : Int) := by omega
            have h00 : (0 : Int) ≤ (k : Int) := by omega
            have hsz := V.sz_part hlt1
            obtain ⟨ga, offa, A3, c3, B3, d3, rfl, _, hr1, ca0, ca1, ca2, ca3, ca4⟩ := (HL1.out.below hI.bel).elem k hlt1
            obtain ⟨gb, offb, A4, c4, B4, d4, rfl, _, hr2, cb0, cb1, cb2, cb3, cb4⟩ := (HL2.out.below hI.bel).elem k hlt2
            have hY := fun (W : World) (h1 : RdV ok1 W (valV X.parts[k] A3 c3 B3 d3) X.parts[k]) (h2 : RdV ok2 W (valV Y.parts[k] A4 c4 B4 d4) Y.parts[k]) => Hih.out (SizeOf.sizeOf X.parts[k]) (Nat.lt_of_lt_of_le hsz hm) X.parts[k] Y.parts[k] _ _ ok1 ok2 W h1 h2 (HRX.out.plain.2 k hlt1) (HRY.out.plain.2 k hlt2) (Nat.le_refl _)
            rw [if_pos rfl] at htot
            by_cases h5k : X.kind = 5
            · have hka : k < X.keys.length := by rw [HRX.out.keys h5k]; exact hlt1
              have hkb : k < Y.keys.length := by rw [HRY.out.keys (hkind ▸ h5k)]; exact hlt2
              obtain ⟨gc, offc, rfl, _, cc0, _⟩ := (HK1.out.below hI.bel).elem k hka
              obtain ⟨gd, offd, rfl, _, cd0, _⟩ := (HK2.out.below hI.bel).elem k hkb
              have hkc : (k : Int) < (X.keys.length : Int) := by omega
              have hkd : (k : Int) < (Y.keys.length : Int) := by omega
              have hr5 : decide (X.kind = 5) = true := by simpa using h5k
              have hst := htot
              rw [hr5, step_rec hlt1 hlt2 hka hkb] at hst
              have g5 : (X.kind == 5) = true := by simpa using h5k
              have hN1 : Lib.compareBytes X.keys[k] Y.keys[k] ≠ 0 → (if Lib.compareBytes X.keys[k] Y.keys[k] = 0 then ordL (decide (X.kind = 5)) (X.parts.drop (k + 1)) (Y.parts.drop (k + 1)) (X.keys.drop (k + 1)) (Y.keys.drop (k + 1)) else Lib.compareBytes X.keys[k] Y.keys[k]) = totS X Y := by
                intro h
                rw [if_neg h] at hst
                rw [if_neg h]
                exact hst
              have hN2 : Lib.compareBytes X.keys[k] Y.keys[k] = 0 → (if ordS X.parts[k] Y.parts[k] = 0 then ordL (decide (X.kind = 5)) (X.parts.drop (k + 1)) (Y.parts.drop (k + 1)) (X.keys.drop (k + 1)) (Y.keys.drop (k + 1)) else ordS X.parts[k] Y.parts[k]) = totS X Y := by
                intro h
                rw [if_pos h] at hst
                rw [hr5]
                exact hst
              generalize X.parts[k] = x at *
              generalize Y.parts[k] = y at *
              generalize X.keys[k] = kx at *
              generalize Y.keys[k] = ky at *
              have HY := Lib.hid hY
              have Hr1 := Lib.hid hr1
              have Hr2 := Lib.hid hr2
              have Hlt := Lib.hid (And.intro hlt1 hlt2)
              have Hkd := Lib.hid hkind
              have HN1 := Lib.hid hN1
              have HN3 := Lib.hid hN2
              clear hY hr1 hr2 hlt1 hlt2 hkind hkk htot hst hN1 hN2 hI hsz hka hkb hr5 h5k hk1 hk2 HT
              go_wp2_with fail
              go_upto_region 6 with fail
              go_cut [5] (fun c wx => c = .int .i64 (Lib.compareBytes kx ky) ∧ wx = wr.drew)
              case first =>
                go_region_with (go_at_call 129; refine (str_cmpL _ _ _).mono ?_; rintro e w' ⟨rfl, rfl⟩)
                all_goals go_wp2_with fail
                all_goals go_meet
                all_goals exact ⟨rfl, rfl⟩
              case rest =>
                obtain ⟨rfl, rfl⟩ := hcut
                by_cases hcz : Lib.compareBytes kx ky = 0
                · have gz : (Lib.compareBytes kx ky == 0) = true := by simpa using hcz
                  have HN4 := Lib.hid (HN3.out hcz)
                  clear hcz cc0 cd0
                  go_wp2_with fail
                  go_region_with (go_at_call 105; refine (HY.out _ (Hr1.out.below (bthen drw drw)) (Hr2.out.below (bthen drw drw))).mono ?_; rintro e wn ⟨rfl, hb⟩; have HBn := Lib.hid (bthen (bthen drw drw) hb); clear hb)
                  all_goals clear p0 p1 p2 p3 p4 q0 q1 q2 q3 q4 ca0 ca1 ca2 ca3 ca4 cb0 cb1 cb2 cb3 cb4
                  all_goals go_wp2_with fail
                  all_goals exact ⟨⟨k + 1, ordS x y, rfl, by go_num, Hlt.out.1, Hlt.out.2, fun _ => Hkd.out, HN4.out, HI.out.below HBn.out⟩, by have := Hlt.out; simp [intOf]; omega⟩
                · have gz : (Lib.compareBytes kx ky == 0) = false := by simpa using hcz
                  have HN2 := Lib.hid (HN1.out hcz)
                  clear hcz cc0 cd0
                  go_wp2_with fail
                  exact ⟨⟨k + 1, Lib.compareBytes kx ky, rfl, by go_num, Hlt.out.1, Hlt.out.2, fun _ => Hkd.out, HN2.out, HI.out.below drw⟩, by have := Hlt.out; simp [intOf]; omega⟩
            · have g5 : (X.kind == 5) = false := by simpa using h5k
              have hr5 : decide (X.kind = 5) = false := by simpa using h5k
              have hst := htot
              rw [hr5, step_row hlt1 hlt2] at hst
              have hN2 : (if ordS X.parts[k] Y.parts[k] = 0 then ordL (decide (X.kind = 5)) (X.parts.drop (k + 1)) (Y.parts.drop (k + 1)) (X.keys.drop (k + 1)) (Y.keys.drop (k + 1)) else ordS X.parts[k] Y.parts[k]) = totS X Y := by
                rw [hr5]
                exact hst
              generalize X.parts[k] = x at *
              generalize Y.parts[k] = y at *
              have HY := Lib.hid hY
              have Hr1 := Lib.hid hr1
              have Hr2 := Lib.hid hr2
              have Hlt := Lib.hid (And.intro hlt1 hlt2)
              have Hkd := Lib.hid hkind
              have HN4 := Lib.hid hN2
              clear hY hr1 hr2 hlt1 hlt2 hkind hkk htot hst hN2 hI hsz hr5 h5k hk1 hk2 HT
              go_wp2_with fail
              go_region_with (go_at_call 105; refine (HY.out _ (Hr1.out.below (drw)) (Hr2.out.below (drw))).mono ?_; rintro e wn ⟨rfl, hb⟩; have HBn := Lib.hid (bthen (drw) hb); clear hb)
              all_goals clear p0 p1 p2 p3 p4 q0 q1 q2 q3 q4 ca0 ca1 ca2 ca3 ca4 cb0 cb1 cb2 cb3 cb4
              all_goals go_wp2_with fail
              all_goals exact ⟨⟨k + 1, ordS x y, rfl, by go_num, Hlt.out.1, Hlt.out.2, fun _ => Hkd.out, HN4.out, HI.out.below HBn.out⟩, by have := Hlt.out; simp [intOf]; omega⟩
          · have hlA : (k : Int) < (X.parts.length : Int) := by omega
            have hlB : ¬ (k : Int) < (Y.parts.length : Int) := by omega
            have hfin : ordS X Y = orI 0 (cmpI X.parts.length Y.parts.length) := by
              have h0 : Y.parts.drop k = [] := List.drop_eq_nil_of_le (by omega)
              rw [if_pos rfl, h0, ordL_nil2] at htot
              rw [HE.out, ← totS, ← htot]
            have HF := Lib.hid hfin
            clear hfin htot hI hkk hkind hlt1 hlt2
            go_wp2_with fail
            refine (cmp_int _ _ _).mono ?_
            rintro e w' ⟨rfl, rfl⟩
            go_wp2_with fail
            refine (or2_new _ _ _ _ rfl).mono ?_
            rintro e w' ⟨rfl, rfl⟩
            go_wp2_with fail
            go_ret
            rw [HF.out]
            exact ⟨rfl, HI.out.bel.alloc HI.out.bel.size _⟩
        · have hlA : ¬ (k : Int) < (X.parts.length : Int) := by omega
          have hfin : ordS X Y = orI 0 (cmpI X.parts.length Y.parts.length) := by
            have h0 : X.parts.drop k = [] := List.drop_eq_nil_of_le (by omega)
            rw [if_pos rfl, h0, ordL_nil1] at htot
            rw [HE.out, ← totS, ← htot]
          have HF := Lib.hid hfin
          clear hfin htot hI hkk hkind hlt1
          go_wp2_with fail
          refine (cmp_int _ _ _).mono ?_
          rintro e w' ⟨rfl, rfl⟩
          go_wp2_with fail
          refine (or2_new _ _ _ _ rfl).mono ?_
          rintro e w' ⟨rfl, rfl⟩
          go_wp2_with fail
          go_ret
          rw [HF.out]
          exact ⟨rfl, HI.out.bel.alloc HI.out.bel.size _⟩
      · have g0 : (cc == 0) = false := by simpa using hcc
        have hfin : ordS X Y = orI cc (cmpI X.parts.length Y.parts.length) := by
          rw [if_neg hcc] at htot
          rw [HE.out, ← totS, ← htot]
        have HF := Lib.hid hfin
        clear hfin htot hI hkk hcc
        go_wp2_with fail
        refine (cmp_int _ _ _).mono ?_
        rintro e w' ⟨rfl, rfl⟩
        go_wp2_with fail
        refine (or2_new _ _ _ _ rfl).mono ?_
        rintro e w' ⟨rfl, rfl⟩
        go_wp2_with fail
        go_ret
        rw [HF.out]
        exact ⟨rfl, HI.out.bel.alloc HI.out.bel.size _⟩
end Go.Proofs.YtacaknkfddlklaaGreatDoor
