/- The variables that the lexer's rows list (Go's tables, strconv's two errors, utf8's pinned table): what the walks ask of them (LexW), and a world for the witness. -/
import Derived.Test.YtlnhhffhmeekoaaGreatDoorRows
import Derived.Test.YtlnhhffhmeekoaaGreatDoorGLexT
import Derived.LaidMore
import Derived.LaidLaws
import Derived.Stop.LaidErr
import Derived.ProofKit
set_option linter.unusedVariables false
set_option linter.unusedSimpArgs false
namespace Go.Proofs.YtlnhhffhmeekoaaGreatDoor
open Go.ChangeShapes Go.WideShapes Go.ChangeAt Go.RowKit

/-- a variable of a whole number's type holds some number -/
theorem int_of_shape {P : Program} {w : World} {g : Nat} {t : TypeId} {k : IntKind} {zero : Array Value} (h : w.ShapedOpen P) (hg : g < P.globals.size)
    (h0 : ((begin P (fun _ _ => 0) default).world.heap[g]?).bind Obj.row? = some (zero, t)) (hz : zero.size = 1)
    (hb : P.buildable t = true) (hc : P.cellTypes P.depth t = some [t]) (hu : P.underlying t = some (.int k)) : ∃ n, w.cell? ⟨g, 0, none⟩ = some (.int k n) := by
  obtain ⟨cs, hh, hs, hr⟩ := h.1 g zero t hg h0
  obtain ⟨ts, hts, _, hall⟩ := hr hb
  rw [hc] at hts
  cases hts
  have h1 : 0 < cs.size := by omega
  obtain ⟨u, hu', hok⟩ := hall 0 cs[0] (by simp [h1])
  have : u = t := by simpa using hu'.symm
  subst this
  have hcell : w.cell? ⟨g, 0, none⟩ = some cs[0] := by simp [World.cell?, hh, h1]
  rw [hcell]
  unfold Cell.ok at hok
  rw [hu] at hok
  cases hv : cs[0] <;> rw [hv] at hok <;> simp at hok
  obtain ⟨rfl, _⟩ := hok
  exact ⟨_, rfl⟩
/-- a listed variable of an interface's type holds one -/
theorem iface_of_laid {P : Program} {n nm : String} {d : DataW Unit} {r : List (String × DataW Unit)} {W : World} {g : Nat} {ti : TypeId} {ms : Array (String × TypeId)}
    (h : laidMet P ((n, .iface nm d) :: r) W) (hg : P.globalNamed n = some g) (ht : (P.globals[g]?).map (·.type) = some ti) (hi : P.underlying ti = some (.interface ms)) : ∃ te pe, W.cell? ⟨g, 0, none⟩ = some (.iface te pe) := by
  obtain ⟨ps, ⟨g0, t0, cs0, f0, p0, q0, hg0, ht0, hv0, hd0, _, e0⟩, _, hrows⟩ := h
  obtain rfl := Option.some.inj (hg.symm.trans hg0)
  obtain rfl := Option.some.inj (ht.symm.trans ht0)
  obtain ⟨l0⟩ := cs0
  obtain ⟨f1, u, v, e, _, _⟩ := iface_of_trod hi hd0
  subst e
  exact ⟨u, v, by simpa using World.var?_cell hg0 hv0 0⟩

abbrev lexList : List (String × DataW Unit) := Rows.parseReadsRow.laid
theorem lexW_of {W : World} (h : laidMetH Tryz.prog lexList W) (hs : W.ShapedOpen Tryz.prog) : LexW W := by
  have h0 : laidMet Tryz.prog lexList W := by
    have := h
    rw [MakeChecks.laidMetH_plain _ _ _ (by kernel_rfl)] at this
    exact this
  have h4 := h0.tail.tail.tail.tail
  refine ⟨int_of_shape (t := 3) (zero := #[.int .i64 0]) hs (of_decide_eq_true (by kernel_rfl)) (by kernel_rfl) rfl (by kernel_rfl) (by kernel_rfl) Tryz.underlying3, ?_, ?_⟩
  · exact iface_of_laid h4.tail (by kernel_rfl) (by kernel_rfl) Tryz.underlying79
  · exact iface_of_laid h4 (by kernel_rfl) (by kernel_rfl) Tryz.underlying79

/-- the cells of a listed table of whole numbers -/
def tabCells : DataW Unit → Array Value
  | .agg ds => (ds.map fun
      | .lit (.int k n) => Value.int k n
      | _ => .nilIface).toArray
  | _ => #[]
/-- a world for the witness: what the door's run leaves, and utf8's pinned table -/
noncomputable def lexWorld (os : Os) : World :=
  let w0 := World.doorLaid Tryz.prog 123 os
  { w0 with heap := w0.heap.modify 1 (fun
      | .cells _ t frozen => .cells (tabCells Rows.laid_unicode_utf8_first) t frozen
      | o => o) }
theorem lex_met (os : Os) (args : Array Value) : laidMetH Tryz.prog lexList ((lexWorld os).forCall (fun _ _ => 0) ⟨#[], args, []⟩).memory :=
  laidMetH_of_parts3 (fuel := 8) (laidMet_of_run' 8 (by kernel_rfl) (by kernel_rfl)) (by kernel_rfl) (by kernel_rfl)
end Go.Proofs.YtlnhhffhmeekoaaGreatDoor
