/- What prim.table's map holds: its functions. -/
import Derived.Test.YtacaknkfddlklaaGreatDoorMakers
set_option linter.unusedVariables false
set_option linter.unusedSimpArgs false
namespace Go.Proofs.YtacaknkfddlklaaGreatDoor
open Go.RowKit Go.IntWalk Go.ChangeMaps Go.MapKept

def plainF : Nat → Option Nat
  | 10 => some 46 | 15 => some 54 | 16 => some 55 | 17 => some 57 | 18 => some 59
  | 23 => some 65 | 24 => some 67 | 25 => some 68 | 26 => some 69 | 27 => some 70
  | 28 => some 72 | 29 => some 73 | 30 => some 74 | 31 => some 75 | 32 => some 76
  | 33 => some 77 | 34 => some 78 | 35 => some 79 | 36 => some 80 | 37 => some 81
  | _ => none
def intsF : Nat → Option Nat
  | 11 => some 48 | 12 => some 50 | _ => none
def divF : Nat → Option Nat
  | 13 => some 52 | 14 => some 53 | _ => none
def ordF : Nat → Option Nat
  | 19 => some 61 | 20 => some 62 | 21 => some 63 | 22 => some 64 | _ => none
/-- the value under k in the world w; b: the map's own block -/
def Good (w : World) (b k : Nat) (v : Value) : Prop :=
  (∃ f, plainF k = some f ∧ v = .func (.func f) #[] #[]) ∨
  (∃ f p, intsF k = some f ∧ v = clos 103 p ∧ p ≠ b ∧ w.cell? ⟨p, 0, none⟩ = some (.func (.func f) #[] #[])) ∨
  (∃ f p q, divF k = some f ∧ v = clos 103 p ∧ p ≠ b ∧ q ≠ b ∧ w.cell? ⟨p, 0, none⟩ = some (clos 104 q) ∧ w.cell? ⟨q, 0, none⟩ = some (.func (.func f) #[] #[])) ∨
  (∃ f p, ordF k = some f ∧ v = clos 106 p ∧ p ≠ b ∧ w.cell? ⟨p, 0, none⟩ = some (.func (.func f) #[] #[]))
theorem Good.keep {w w' : World} {b : Nat} (hc : ∀ p v, p ≠ b → w.cell? ⟨p, 0, none⟩ = some v → w'.cell? ⟨p, 0, none⟩ = some v) (k : Nat) (v : Value) (h : Good w b k v) : Good w' b k v := by
  rcases h with h | ⟨f, p, h1, h2, h3, h4⟩ | ⟨f, p, q, h1, h2, h3, h4, h5, h6⟩ | ⟨f, p, h1, h2, h3, h4⟩
  · exact Or.inl h
  · exact Or.inr (Or.inl ⟨f, p, h1, h2, h3, hc _ _ h3 h4⟩)
  · exact Or.inr (Or.inr (Or.inl ⟨f, p, q, h1, h2, h3, h4, hc _ _ h3 h5, hc _ _ h4 h6⟩))
  · exact Or.inr (Or.inr (Or.inr ⟨f, p, h1, h2, h3, hc _ _ h3 h4⟩))
abbrev TabG (w : World) (b n : Nat) : Prop := Tab w (Good w b) b n
theorem TabG.alloc {w : World} {b n : Nat} (h : TabG w b n) (X : Obj) : TabG (w.alloc X) b n :=
  have hb : Below w.heap.size w (w.alloc X) := (Below.refl _ _).alloc (Nat.le_refl _) X
  h.imp ((MapKept.heap_alloc w X).2 _ h.lt) (Good.keep (fun p v _ hc => bcell hb hc))
theorem TabG.made (w : World) : TabG (w.alloc (.map #[] 0)) w.heap.size 0 := Tab.made w _
theorem TabG.update {w : World} {b n : Nat} (h : TabG w b n) (hn : n < 1000) {z : Int} (hz : z = ((10 + n : Nat) : Int)) {v : Value} (hv : Good w b (10 + n) v) :
    ∃ w', (Instr.mapUpdate 52 (.map (some b)) (.int .i64 z) v).run Tryz.prog w = .ok () w' ∧ TabG w' b (n + 1) ∧ w.grownBy w' (some b) := by
  obtain ⟨w', h1, h2, h3⟩ := Tab.update (P := Tryz.prog) (k := 3) (e := 51) (t := 52) Tryz.underlying3 Tryz.underlying52 h hn hz hv
  exact ⟨w', h1, h2.imp rfl (Good.keep (fun p v hp hc => h3.cell hc (by simpa using hp))), h3⟩
/-- a store into the table, at the operation -/
theorem wpList_table {w : World} {ops : Array Oper} {rest : List Oper} {o : Oper} {a : Act} {Q : Exit → Act → World → Prop}
    (hg : o.guard = none) (m x y : Operand) (hop : o.op = Op.insert 52 m x y) (b n : Nat) (z : Int) (v : Value) (hm : a.eval m = .map (some b)) (hx : a.eval x = .int .i64 z) (hv : a.eval y = v)
    (h : TabG w b n) (hn : n < 1000) (hz : z = ((10 + n : Nat) : Int)) (hgood : Good w b (10 + n) v)
    (hK : ∀ w', TabG w' b (n + 1) → w.grownBy w' (some b) → wpList Tryz.prog ops Q rest (a.put o.dst undef) w') :
    wpList Tryz.prog ops Q (o :: rest) a w := by
  refine wpList_plain hg fun K' hK' => ?_
  obtain ⟨w', hrun, r1, r2⟩ := h.update hn hz hgood
  unfold Oper.wp
  simp [execOp, hop, hm, hx, hv, hrun, Result.andThen]
  exact hK' _ _ (hK w' r1 r2)
end Go.Proofs.YtacaknkfddlklaaGreatDoor
