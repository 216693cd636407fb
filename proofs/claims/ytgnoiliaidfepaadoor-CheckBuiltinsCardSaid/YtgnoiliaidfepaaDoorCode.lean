/- Contracts of code.Named and code.Info, of the reference's Rows, Named and Info, and of both Builtin: each tells what the document's table has. -/
import Derived.Test.YtgnoiliaidfepaaDoorMem
import Derived.Test.YtgnoiliaidfepaaDoorCodeSpec
import Derived.WalkSpells
import Derived.WalkLawsBesides
import Derived.Deep.MidRow
import Derived.ChangeKeysEq
import Derived.Deep.RegionHeld3
import Derived.Deep.QuietTactic
import Derived.BigQuiet
set_option linter.unusedVariables false
set_option linter.unusedSimpArgs false
namespace Go.Proofs.YtgnoiliaidfepaaDoor
open Go.RowKit

def opNameS (k : Nat) : ByteArray := ⟨(opName k).toArray⟩
def namesCells : Array Value := ((List.range 42).map fun k => Value.string (opNameS k)).toArray
def numbersCells : Array Value := ((List.range 210).map fun i => Value.int .i64 (opNum (i / 5) (i % 5))).toArray
def rowCell (i : Nat) : Value := if i % 6 = 0 then .string (opNameS (i / 6 + 1)) else .int .i64 (opNum (i / 6 + 1) (i % 6 - 1))
def rowsCells : Array Value := ((List.range 246).map rowCell).toArray
theorem names_at (k : Nat) (hk : k < 42) : namesCells[k]? = some (.string (opNameS k)) := by simp [namesCells, hk]
theorem numbers_at (k j : Nat) (hk : k < 42) (hj : j < 5) : numbersCells[k * 5 + j]? = some (.int .i64 (opNum k j)) := by
  have h1 : (k * 5 + j) / 5 = k := by omega
  have h2 : (k * 5 + j) % 5 = j := by omega
  simp [numbersCells, show k * 5 + j < 210 by omega, h1, h2]
theorem rows_at (i : Nat) (hi : i < 246) : rowsCells[i]? = some (rowCell i) := by simp [rowsCells, hi]
theorem rowCell_name (k : Nat) : rowCell (k * 6) = .string (opNameS (k + 1)) := by simp [rowCell]
theorem rowCell_num (k j : Nat) (h : j < 5) : rowCell (k * 6 + (j + 1)) = .int .i64 (opNum (k + 1) j) := by
  have h1 : (k * 6 + (j + 1)) / 6 = k := by omega
  have h2 : (k * 6 + (j + 1)) % 6 = j + 1 := by omega
  simp [rowCell, h1, h2]

/-- what the program's table holds when a call begins -/
structure CodeLaid (w : World) : Prop where
  names : ∃ t fr, w.heap[0]? = some (.cells namesCells t fr)
  numbers : ∃ t fr, w.heap[1]? = some (.cells numbersCells t fr)
theorem CodeLaid.below {w w1 : World} (h : CodeLaid w) (hb : Below w.heap.size w w1) : CodeLaid w1 := by
  obtain ⟨⟨t, fr, h1⟩, ⟨t', fr', h2⟩⟩ := h
  exact ⟨⟨t, fr, (hb.block _ (Array.getElem?_eq_some_iff.1 h1).1).trans h1⟩, ⟨t', fr', (hb.block _ (Array.getElem?_eq_some_iff.1 h2).1).trans h2⟩⟩

/-- an array of cells of one cell each, indexed -/
theorem run_index_agg {P : Program} (t e : TypeId) (n : Nat) (cs : Array Value) (k : IntKind) (i : Nat) (v : Value) (h : P.underlying t = some (.array n e)) (he : (P.info? e).map (·.size) = some 1) (hpl : P.plainKey e = true) (hx : cs[i]? = some v) (hi : i < n) (w : World) :
    (Instr.index t (.agg cs) (.int k i)).run P w = .ok v w := by
  cases hq : P.info? e with
  | none => simp [hq] at he
  | some i0 =>
    have hs : i0.size = 1 := by simpa [hq] using he
    have hp := fun w => run_part_plain (w := w) hpl hx
    simp [Instr.index, asIntOf, run_underlying h, hi, sizeOf, typeInfo, hq, hs, hp]

theorem named_step (l : List UInt8) (k : Nat) (hk : k < 42) : (opName k = l → namedFrom l (42 - k) k = k) ∧ (¬ opName k = l → namedFrom l (42 - (k + 1)) (k + 1) = namedFrom l (42 - k) k) := by
  have e : 42 - k = (42 - (k + 1)) + 1 := by omega
  rw [e]
  exact ⟨fun h => by rw [namedFrom, if_pos h], fun h => by rw [namedFrom, if_neg h]⟩
theorem Named_calls (s : ByteArray) (w : World) (hl : Hid (CodeLaid w)) :
    Calls Tryd.prog 21 #[.string s] w fun e w' => e = .returned (.tuple #[.int .i64 (named s.data.toList), .bool (decide (0 < named s.data.toList))]) ∧ w = w' := by
  obtain ⟨t, fr, hg⟩ := hl.out.names
  have HG := Lib.hid hg
  clear hg
  go_enter Tryd.func21, Tryd.ntmps21
  go_wp2_with (refine wpList_load_row rfl 69 _ rfl 0 rfl t _ fr _ HG.out Tryd.underlying69 rfl (by kernel_rfl) ?_)
  go_loop [7] (fun i => ∃ k : Nat, k ≤ 42 ∧ i = .int .i64 k ∧ namedFrom s.data.toList (42 - k) k = named s.data.toList) (fun i => 42 - (intOf i).toNat)
  case atStart => exact ⟨0, Nat.zero_le _, rfl, rfl⟩
  case round =>
    obtain ⟨k, hk, rfl, hr⟩ := hrel
    have HR := Lib.hid hr
    clear hr
    by_cases hlt : k < 42
    · have hix : ∀ W, (Instr.index 69 (.agg namesCells) (.int .i64 (k : Int))).run Tryd.prog W = .ok (.string (opNameS k)) W :=
        run_index_agg 69 9 42 namesCells .i64 k _ Tryd.underlying69 (by kernel_rfl) (by kernel_rfl) (names_at k hlt) hlt
      have hs := named_step s.data.toList k hlt
      rw [HR.out] at hs
      have Hs := Lib.hid hs
      clear hs
      go_wp2
      · have h : ((opNameS k).toList == s.toList) = true := by assumption
        have e : named s.data.toList = k := Hs.out.1 (by simpa [opNameS, ByteArray.toList_eq] using h)
        go_ret2
        exact ⟨by simp [e], rfl⟩
      · have h : ((opNameS k).toList == s.toList) = false := by assumption
        have e := Hs.out.2 (by simpa [opNameS, ByteArray.toList_eq] using h)
        exact ⟨⟨k + 1, by omega, by go_num, e⟩, by simp [intOf]; omega⟩
    · go_wp2
      go_ret2
      have e : k = 42 := by omega
      subst e
      have h := HR.out
      exact ⟨by rw [← h]; rfl, rfl⟩

abbrev infoV (k : Nat) : Value := .agg #[.string (opNameS k), .int .i64 (opNum k 0), .int .i64 (opNum k 1), .int .i64 (opNum k 2), .int .i64 (opNum k 3), .int .i64 (opNum k 4)]
abbrev infoZ : Value := .agg #[.string ⟨#[]⟩, .int .i64 0, .int .i64 0, .int .i64 0, .int .i64 0, .int .i64 0]

theorem Info_none (op : Int) (w : World) (h : op < 1 ∨ 41 < op) :
    Calls Tryd.prog 22 #[.int .i64 op] w fun e w' => e = .returned (.tuple #[infoZ, .bool false]) ∧ Below w.heap.size w w' := by
  rcases h with h | h
  · go_enter Tryd.func22, Tryd.ntmps22
    go_wp2
    refine bodyPost_ret (v := .tuple #[infoZ, .bool false]) (by simp [results, infoZ, Tryd.results22, go_sem]) rfl ⟨rfl, (Below.refl _ _).alloc (Nat.le_refl _) _⟩
  · have h' : ¬ op < 1 := by omega
    go_enter Tryd.func22, Tryd.ntmps22
    go_wp2
    refine bodyPost_ret (v := .tuple #[infoZ, .bool false]) (by simp [results, infoZ, Tryd.results22, go_sem]) rfl ⟨rfl, (Below.refl _ _).alloc (Nat.le_refl _) _⟩

theorem Info_some (k : Nat) (w : World) (hl : Hid (CodeLaid w)) (h1 : 1 ≤ k) (h2 : k ≤ 41) :
    Calls Tryd.prog 22 #[.int .i64 (k : Int)] w fun e w' => e = .returned (.tuple #[infoV k, .bool true]) ∧ Below w.heap.size w w' := by
  obtain ⟨t, fr, hg⟩ := hl.out.names
  obtain ⟨t', fr', hg'⟩ := hl.out.numbers
  have hn : w.cell? ⟨0, k, none⟩ = some (.string (opNameS k)) := by rw [cell_of_row w _ _ _ _ _ hg, names_at k (by omega)]
  have hs : 1 < w.heap.size := (Array.getElem?_eq_some_iff.1 hg').1
  have hs0 : 0 < w.heap.size := by omega
  have hk42 : (k : Int) < 42 := by omega
  have c0 : w.cell? ⟨1, k * 5, none⟩ = some (.int .i64 (opNum k 0)) := by rw [cell_of_row w _ _ _ _ _ hg']; exact numbers_at k 0 (by omega) (by omega)
  have c1 : w.cell? ⟨1, k * 5 + 1, none⟩ = some (.int .i64 (opNum k 1)) := by rw [cell_of_row w _ _ _ _ _ hg', numbers_at k 1 (by omega) (by omega)]
  have c2 : w.cell? ⟨1, k * 5 + 2, none⟩ = some (.int .i64 (opNum k 2)) := by rw [cell_of_row w _ _ _ _ _ hg', numbers_at k 2 (by omega) (by omega)]
  have c3 : w.cell? ⟨1, k * 5 + 3, none⟩ = some (.int .i64 (opNum k 3)) := by rw [cell_of_row w _ _ _ _ _ hg', numbers_at k 3 (by omega) (by omega)]
  have c4 : w.cell? ⟨1, k * 5 + 4, none⟩ = some (.int .i64 (opNum k 4)) := by rw [cell_of_row w _ _ _ _ _ hg', numbers_at k 4 (by omega) (by omega)]
  clear hg hg'
  go_enter Tryd.func22, Tryd.ntmps22
  go_wp2_with fail
  go_region_held3 (fun w' => w'.cell? ⟨0, k, none⟩ = some (.string (opNameS k)) ∧ w'.cell? ⟨w.heap.size + 1, 0, none⟩ = some (.int .i64 (opNum k 0)) ∧ w'.cell? ⟨w.heap.size + 1, 1, none⟩ = some (.int .i64 (opNum k 1)) ∧ w'.cell? ⟨w.heap.size + 1, 2, none⟩ = some (.int .i64 (opNum k 2)) ∧ w'.cell? ⟨w.heap.size + 1, 3, none⟩ = some (.int .i64 (opNum k 3)) ∧ w'.cell? ⟨w.heap.size + 1, 4, none⟩ = some (.int .i64 (opNum k 4)))
    ((go_simp)) (first | fail)
  go_wp2
  exact bodyPost_ret (v := .tuple #[infoV k, .bool true]) (by simp [results, infoV, Tryd.results22, go_sem]) rfl ⟨rfl, (((Below.refl _ _).alloc (Nat.le_refl _) _).alloc (by simp) _).drew⟩

/-- the reference's table: one new block -/
theorem refRows (w : World) :
    Calls Tryd.prog 42 #[] w fun e w' => e = .returned (.slice (some ⟨w.heap.size, 0, none⟩) 41 41) ∧ w' = w.alloc (.cells rowsCells 51) := by
  refine calls_of_wp Tryd.func42 rfl ?_
  refine wp_seq (wp_region_lit ?_)
  refine wpList_runOps _ _ _ ⟨(Array.replicate 43 undef).setIfInBounds 0 (.slice none 0 0), []⟩ w (by kernel_rfl) ?_
  refine wp_seq (wp_region_lit ?_)
  refine wpList_runTo1 _ _ _ (w.alloc (.cells rowsCells 51)) 0 (.slice (some ⟨w.heap.size, 0, none⟩) 41 41) (by kernel_rfl) (fun a1 hv hd1 => ?_)
  refine wp_ret ?_
  refine bodyPost_ret (results_tmp rfl _ _ _) hd1 ⟨by rw [hv], rfl⟩
theorem refRows' (w : World) :
    Calls Tryd.prog 42 #[] w fun e w' => e = .returned (.slice (some ⟨w.heap.size, 0, none⟩) 41 41) ∧ Below w.heap.size w w' ∧ w.heap.size < w'.heap.size ∧ ∀ i, i < 246 → w'.cell? ⟨w.heap.size, i, none⟩ = some (rowCell i) :=
  (refRows w).mono fun e w' ⟨he, hw⟩ => by
    subst hw
    refine ⟨he, (Below.refl _ _).alloc (Nat.le_refl _) _, by simp, fun i hi => ?_⟩
    rw [World.cell?_alloc_at _ _ _ _ rfl]
    exact rows_at i hi

theorem refNamed (s : ByteArray) (w : World) :
    Calls Tryd.prog 23 #[.string s] w fun e w' => e = .returned (.tuple #[.int .i64 (named s.data.toList), .bool (decide (0 < named s.data.toList))]) ∧ Below w.heap.size w w' := by
  go_enter Tryd.func23, Tryd.ntmps23
  go_wp2_with (go_at_call 42; refine (refRows' _).mono ?_; rintro e w1 ⟨rfl, hb1, hs1, hc1⟩; have HC := Lib.hid hc1; clear hc1)
  go_loop [5] (fun i => ∃ k : Nat, k ≤ 41 ∧ i = .int .i64 k ∧ namedFrom s.data.toList (41 - k) (k + 1) = named s.data.toList) (fun i => 41 - (intOf i).toNat)
  case atStart => exact ⟨0, Nat.zero_le _, rfl, (named_first _).symm⟩
  case round =>
    obtain ⟨k, hk, rfl, hr⟩ := hrel
    have HR := Lib.hid hr
    clear hr
    by_cases hlt : k < 41
    · have hc := HC.out (k * 6) (by omega)
      rw [rowCell_name] at hc
      have hs := named_step s.data.toList (k + 1) (by omega)
      rw [show 42 - (k + 1) = 41 - k from by omega, HR.out] at hs
      have Hs := Lib.hid hs
      clear hs
      go_wp2
      · have h : ((opNameS (k + 1)).toList == s.toList) = true := by assumption
        have e : named s.data.toList = k + 1 := Hs.out.1 (by simpa [opNameS, ByteArray.toList_eq] using h)
        go_ret2
        exact ⟨by simp [e], hb1⟩
      · have h : ((opNameS (k + 1)).toList == s.toList) = false := by assumption
        have e := Hs.out.2 (by simpa [opNameS, ByteArray.toList_eq] using h)
        exact ⟨⟨k + 1, by omega, by go_num, by rw [show 41 - (k + 1) = 42 - (k + 1 + 1) from by omega]; exact e⟩, by simp [intOf]; omega⟩
    · go_wp2
      go_ret2
      have e : k = 41 := by omega
      subst e
      have h := HR.out
      exact ⟨by rw [← h]; rfl, hb1⟩
end Go.Proofs.YtgnoiliaidfepaaDoor
