/- The table of operations, as the document has it: names, and five numbers each (operand, takes, gives, base, rate). Plain lists. -/
import Derived.Test.YtacaknkfddlklaaGreatDoorLexSpec
set_option linter.unusedVariables false
set_option linter.unusedSimpArgs false
namespace Go.Proofs.YtacaknkfddlklaaGreatDoor

def opNames : List (List UInt8) := [[], [99, 111, 110, 115, 116], [103, 101, 116], [115, 101, 116], [112, 111, 112], [106, 117, 109, 112], [117, 110, 108, 101, 115, 115], [116, 101, 115, 116], [99, 97, 108, 108], [114, 101, 116], [97, 100, 100], [115, 117, 98], [109, 117, 108], [100, 105, 118], [114, 101, 109], [110, 101, 103], [110, 111, 116], [101, 113], [110, 101], [108, 116], [108, 101], [103, 116], [103, 101], [97, 114, 114, 97, 121], [114, 101, 99, 111, 114, 100], [105, 110, 100, 101, 120], [102, 105, 101, 108, 100], [108, 101, 110], [112, 117, 115, 104], [99, 104, 97, 110, 103, 101], [115, 108, 105, 99, 101], [119, 105, 116, 104], [119, 105, 116, 104, 111, 117, 116], [107, 101, 121, 115], [104, 97, 115], [107, 105, 110, 100], [100, 105, 103, 101, 115, 116], [97, 98, 111, 114, 116], [108, 111, 97, 100], [115, 97, 118, 101], [100, 114, 111, 112], [97, 102, 116, 101, 114]]
def opNums : List (List Int) := [[0, 0, 0, 0, 0], [1, 0, 1, 1, 0], [2, 0, 1, 1, 0], [2, 1, 0, 1, 0], [0, 1, 0, 1, 0], [3, 0, 0, 1, 0], [3, 1, 0, 2, 0], [0, 1, 1, 1, 0], [4, 0, 1, 8, 0], [0, 1, 0, 1, 0], [0, 2, 1, 2, 1], [0, 2, 1, 2, 0], [0, 2, 1, 3, 0], [0, 2, 1, 3, 0], [0, 2, 1, 3, 0], [0, 1, 1, 1, 0], [0, 1, 1, 1, 0], [0, 2, 1, 2, 1], [0, 2, 1, 2, 1], [0, 2, 1, 2, 1], [0, 2, 1, 2, 1], [0, 2, 1, 2, 1], [0, 2, 1, 2, 1], [5, 0, 1, 2, 1], [1, 0, 1, 2, 1], [0, 2, 1, 2, 0], [1, 1, 1, 2, 0], [0, 1, 1, 1, 0], [0, 2, 1, 2, 1], [0, 3, 1, 2, 1], [0, 3, 1, 2, 1], [0, 3, 1, 2, 1], [0, 2, 1, 2, 1], [0, 1, 1, 2, 1], [0, 2, 1, 2, 0], [0, 1, 1, 1, 0], [0, 1, 1, 20, 1], [0, 1, 1, 1, 0], [0, 1, 1, 10, 1], [0, 2, 1, 20, 2], [0, 1, 1, 10, 1], [0, 1, 1, 10, 1]]
def opName (n : Nat) : List UInt8 := opNames.getD n []
def opNum (n j : Nat) : Int := (opNums.getD n []).getD j 0
/-- the first number from k on, of at most m, that has a name; 42 stands for none -/
def namedFrom (l : List UInt8) : Nat → Nat → Nat
  | 0, _ => 0
  | m + 1, k => if opName k = l then k else namedFrom l m (k + 1)
def named (l : List UInt8) : Nat := namedFrom l 42 0
theorem namedFrom_le (l : List UInt8) : ∀ m k, k + m = 42 → namedFrom l m k ≤ 41
  | 0, _, _ => by simp [namedFrom]
  | m + 1, k, h => by
    unfold namedFrom
    split
    · omega
    · exact namedFrom_le l m (k + 1) (by omega)
theorem named_le (l : List UInt8) : named l ≤ 41 := namedFrom_le l 42 0 rfl
theorem named_first (l : List UInt8) : named l = namedFrom l 41 1 := by
  by_cases h : l = []
  · subst h
    rfl
  · unfold named
    rw [namedFrom, if_neg (by intro e; exact h e.symm)]
theorem named_empty : named [] = 0 := by rfl
/-- the built-in function of a name: its operation, how many it takes -/
def isBuiltin (l : List UInt8) : Bool := decide (27 ≤ named l)
def builtinOp (l : List UInt8) : Int := if 27 ≤ named l then named l else 0
def builtinTakes (l : List UInt8) : Int := if 27 ≤ named l then opNum (named l) 1 else 0

end Go.Proofs.YtacaknkfddlklaaGreatDoor
