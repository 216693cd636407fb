/- The table of operations, as the document has it: names, and five numbers each (operand, takes, gives, base, rate). Plain lists. Contract of code.Info: it tells what the document's table has. -/
import Derived.Test.YtacaknkfddlklaaGreatDoorLexSpec
import Derived.Test.YtacaknkfddlklaaGreatDoorMem
import Derived.WalkSpells
import Derived.WalkLawsBesides
import Derived.Deep.MidRow
import Derived.ChangeKeysEq
import Derived.Deep.RegionHeld3
import Derived.Deep.QuietTactic
import Derived.BigQuiet
set_option linter.unusedVariables false
set_option linter.unusedSimpArgs false
namespace Go.Proofs.YtacaknkfddlklaaGreatDoor

def opNames : List (List UInt8) := [[], [99, 111, 110, 115, 116], [103, 101, 116], [115, 101, 116], [112, 111, 112], [106, 117, 109, 112], [117, 110, 108, 101, 115, 115], [116, 101, 115, 116], [99, 97, 108, 108], [114, 101, 116], [97, 100, 100], [115, 117, 98], [109, 117, 108], [100, 105, 118], [114, 101, 109], [110, 101, 103], [110, 111, 116], [101, 113], [110, 101], [108, 116], [108, 101], [103, 116], [103, 101], [97, 114, 114, 97, 121], [114, 101, 99, 111, 114, 100], [105, 110, 100, 101, 120], [102, 105, 101, 108, 100], [108, 101, 110], [112, 117, 115, 104], [99, 104, 97, 110, 103, 101], [115, 108, 105, 99, 101], [119, 105, 116, 104], [119, 105, 116, 104, 111, 117, 116], [107, 101, 121, 115], [104, 97, 115], [107, 105, 110, 100], [100, 105, 103, 101, 115, 116], [97, 98, 111, 114, 116], [108, 111, 97, 100], [115, 97, 118, 101], [100, 114, 111, 112], [97, 102, 116, 101, 114]]
def opNums : List (List Int) := [[0, 0, 0, 0, 0], [1, 0, 1, 1, 0], [2, 0, 1, 1, 0], [2, 1, 0, 1, 0], [0, 1, 0, 1, 0], [3, 0, 0, 1, 0], [3, 1, 0, 2, 0], [0, 1, 1, 1, 0], [4, 0, 1, 8, 0], [0, 1, 0, 1, 0], [0, 2, 1, 2, 1], [0, 2, 1, 2, 0], [0, 2, 1, 3, 0], [0, 2, 1, 3, 0], [0, 2, 1, 3, 0], [0, 1, 1, 1, 0], [0, 1, 1, 1, 0], [0, 2, 1, 2, 1], [0, 2, 1, 2, 1], [0, 2, 1, 2, 1], [0, 2, 1, 2, 1], [0, 2, 1, 2, 1], [0, 2, 1, 2, 1], [5, 0, 1, 2, 1], [1, 0, 1, 2, 1], [0, 2, 1, 2, 0], [1, 1, 1, 2, 0], [0, 1, 1, 1, 0], [0, 2, 1, 2, 1], [0, 3, 1, 2, 1], [0, 3, 1, 2, 1], [0, 3, 1, 2, 1], [0, 2, 1, 2, 1], [0, 1, 1, 2, 1], [0, 2, 1, 2, 0], [0, 1, 1, 1, 0], [0, 1, 1, 20, 1], [0, 1, 1, 1, 0], [0, 1, 1, 10, 1], [0, 2, 1, 20, 2], [0, 1, 1, 10, 1], [0, 1, 1, 10, 1]]
def opName (n : Nat) : List UInt8 := opNames.getD n []
def opNum (n j : Nat) : Int := (opNums.getD n []).getD j 0
/-- the first number from k on, of at most m, that has a name; 42 stands for none -/
def namedFrom (l : List UInt8) : Nat → Nat → Nat
  | 0, _ => 0
  | m + 1, k => if opName k = l then k else namedFrom l m (k + 1)
def named (l : List UInt8) : Nat := namedFrom l 42 0
theorem namedFrom_le (l : List UInt8) : ∀ m k, k + m = 42 → namedFrom l m k ≤ 41
  | 0, _, _ => by simp [namedFrom]
  | m + 1, k, h => by
    unfold namedFrom
    split
    · omega
    · exact namedFrom_le l m (k + 1) (by omega)
theorem named_le (l : List UInt8) : named l ≤ 41 := namedFrom_le l 42 0 rfl
theorem named_first (l : List UInt8) : named l = namedFrom l 41 1 := by
  by_cases h : l = []
  · subst h
    rfl
  · unfold named
    rw [namedFrom, if_neg (by intro e; exact h e.symm)]
theorem named_empty : named [] = 0 := by rfl
/-- the built-in function of a name: its operation, how many it takes -/
def isBuiltin (l : List UInt8) : Bool := decide (27 ≤ named l)
def builtinOp (l : List UInt8) : Int := if 27 ≤ named l then named l else 0
def builtinTakes (l : List UInt8) : Int := if 27 ≤ named l then opNum (named l) 1 else 0

end Go.Proofs.YtacaknkfddlklaaGreatDoor
namespace Go.Proofs.YtacaknkfddlklaaGreatDoor
open Go.RowKit

def opNameS (k : Nat) : ByteArray := ⟨(opName k).toArray⟩
def namesCells : Array Value := ((List.range 42).map fun k => Value.string (opNameS k)).toArray
def numbersCells : Array Value := ((List.range 210).map fun i => Value.int .i64 (opNum (i / 5) (i % 5))).toArray
def rowCell (i : Nat) : Value := if i % 6 = 0 then .string (opNameS (i / 6 + 1)) else .int .i64 (opNum (i / 6 + 1) (i % 6 - 1))
def rowsCells : Array Value := ((List.range 246).map rowCell).toArray
theorem names_at (k : Nat) (hk : k < 42) : namesCells[k]? = some (.string (opNameS k)) := by simp [namesCells, hk]
theorem numbers_at (k j : Nat) (hk : k < 42) (hj : j < 5) : numbersCells[k * 5 + j]? = some (.int .i64 (opNum k j)) := by
  have h1 : (k * 5 + j) / 5 = k := by omega
  have h2 : (k * 5 + j) % 5 = j := by omega
  simp [numbersCells, show k * 5 + j < 210 by omega, h1, h2]
theorem rows_at (i : Nat) (hi : i < 246) : rowsCells[i]? = some (rowCell i) := by simp [rowsCells, hi]
theorem rowCell_name (k : Nat) : rowCell (k * 6) = .string (opNameS (k + 1)) := by simp [rowCell]
theorem rowCell_num (k j : Nat) (h : j < 5) : rowCell (k * 6 + (j + 1)) = .int .i64 (opNum (k + 1) j) := by
  have h1 : (k * 6 + (j + 1)) / 6 = k := by omega
  have h2 : (k * 6 + (j + 1)) % 6 = j + 1 := by omega
  simp [rowCell, h1, h2]

/-- what the program's table holds when a call begins -/
structure CodeLaid (w : World) : Prop where
  names : ∃ t fr, w.heap[1]? = some (.cells namesCells t fr)
  numbers : ∃ t fr, w.heap[0]? = some (.cells numbersCells t fr)
theorem CodeLaid.below {w w1 : World} (h : CodeLaid w) (hb : Below w.heap.size w w1) : CodeLaid w1 := by
  obtain ⟨⟨t, fr, h1⟩, ⟨t', fr', h2⟩⟩ := h
  exact ⟨⟨t, fr, (hb.block _ (Array.getElem?_eq_some_iff.1 h1).1).trans h1⟩, ⟨t', fr', (hb.block _ (Array.getElem?_eq_some_iff.1 h2).1).trans h2⟩⟩

/-- an array of cells of one cell each, indexed -/
theorem run_index_agg {P : Program} (t e : TypeId) (n : Nat) (cs : Array Value) (k : IntKind) (i : Nat) (v : Value) (h : P.underlying t = some (.array n e)) (he : (P.info? e).map (·.size) = some 1) (hpl : P.plainKey e = true) (hx : cs[i]? = some v) (hi : i < n) (w : World) :
    (Instr.index t (.agg cs) (.int k i)).run P w = .ok v w := by
  cases hq : P.info? e with
  | none => simp [hq] at he
  | some i0 =>
    have hs : i0.size = 1 := by simpa [hq] using he
    have hp := fun w => run_part_plain (w := w) hpl hx
    simp [Instr.index, asIntOf, run_underlying h, hi, sizeOf, typeInfo, hq, hs, hp]

abbrev infoV (k : Nat) : Value := .agg #[.string (opNameS k), .int .i64 (opNum k 0), .int .i64 (opNum k 1), .int .i64 (opNum k 2), .int .i64 (opNum k 3), .int .i64 (opNum k 4)]
abbrev infoZ : Value := .agg #[.string ⟨#[]⟩, .int .i64 0, .int .i64 0, .int .i64 0, .int .i64 0, .int .i64 0]
theorem Info_none (op : Int) (w : World) (h : op < 1 ∨ 41 < op) :
    Calls Tryz.prog 41 #[.int .i64 op] w fun e w' => e = .returned (.tuple #[infoZ, .bool false]) ∧ Below w.heap.size w w' := by
  rcases h with h | h
  · go_enter Tryz.func41, Tryz.ntmps41
    go_wp2
    refine bodyPost_ret (v := .tuple #[infoZ, .bool false]) (by simp [results, infoZ, Tryz.results41, go_sem]) rfl ⟨rfl, (Below.refl _ _).alloc (Nat.le_refl _) _⟩
  · have h' : ¬ op < 1 := by omega
    go_enter Tryz.func41, Tryz.ntmps41
    go_wp2
    refine bodyPost_ret (v := .tuple #[infoZ, .bool false]) (by simp [results, infoZ, Tryz.results41, go_sem]) rfl ⟨rfl, (Below.refl _ _).alloc (Nat.le_refl _) _⟩

theorem Info_some (k : Nat) (w : World) (hl : Hid (CodeLaid w)) (h1 : 1 ≤ k) (h2 : k ≤ 41) :
    Calls Tryz.prog 41 #[.int .i64 (k : Int)] w fun e w' => e = .returned (.tuple #[infoV k, .bool true]) ∧ Below w.heap.size w w' := by
  obtain ⟨t, fr, hg⟩ := hl.out.names
  obtain ⟨t', fr', hg'⟩ := hl.out.numbers
  have hn : w.cell? ⟨1, k, none⟩ = some (.string (opNameS k)) := by rw [cell_of_row w _ _ _ _ _ hg, names_at k (by omega)]
  have hs : 1 < w.heap.size := by have a := (Array.getElem?_eq_some_iff.1 hg').1; have b := (Array.getElem?_eq_some_iff.1 hg).1; omega
  have hs0 : 0 < w.heap.size := by omega
  have hk42 : (k : Int) < 42 := by omega
  have c0 : w.cell? ⟨0, k * 5, none⟩ = some (.int .i64 (opNum k 0)) := by rw [cell_of_row w _ _ _ _ _ hg']; exact numbers_at k 0 (by omega) (by omega)
  have c1 : w.cell? ⟨0, k * 5 + 1, none⟩ = some (.int .i64 (opNum k 1)) := by rw [cell_of_row w _ _ _ _ _ hg', numbers_at k 1 (by omega) (by omega)]
  have c2 : w.cell? ⟨0, k * 5 + 2, none⟩ = some (.int .i64 (opNum k 2)) := by rw [cell_of_row w _ _ _ _ _ hg', numbers_at k 2 (by omega) (by omega)]
  have c3 : w.cell? ⟨0, k * 5 + 3, none⟩ = some (.int .i64 (opNum k 3)) := by rw [cell_of_row w _ _ _ _ _ hg', numbers_at k 3 (by omega) (by omega)]
  have c4 : w.cell? ⟨0, k * 5 + 4, none⟩ = some (.int .i64 (opNum k 4)) := by rw [cell_of_row w _ _ _ _ _ hg', numbers_at k 4 (by omega) (by omega)]
  clear hg hg'
  go_enter Tryz.func41, Tryz.ntmps41
  go_wp2_with fail
  go_region_held3 (fun w' => w'.cell? ⟨1, k, none⟩ = some (.string (opNameS k)) ∧ w'.cell? ⟨w.heap.size + 1, 0, none⟩ = some (.int .i64 (opNum k 0)) ∧ w'.cell? ⟨w.heap.size + 1, 1, none⟩ = some (.int .i64 (opNum k 1)) ∧ w'.cell? ⟨w.heap.size + 1, 2, none⟩ = some (.int .i64 (opNum k 2)) ∧ w'.cell? ⟨w.heap.size + 1, 3, none⟩ = some (.int .i64 (opNum k 3)) ∧ w'.cell? ⟨w.heap.size + 1, 4, none⟩ = some (.int .i64 (opNum k 4)))
    ((go_simp)) (first | fail)
  go_wp2
  exact bodyPost_ret (v := .tuple #[infoV k, .bool true]) (by simp [results, infoV, Tryz.results41, go_sem]) rfl ⟨rfl, (((Below.refl _ _).alloc (Nat.le_refl _) _).alloc (by simp) _).drew⟩
end Go.Proofs.YtacaknkfddlklaaGreatDoor
