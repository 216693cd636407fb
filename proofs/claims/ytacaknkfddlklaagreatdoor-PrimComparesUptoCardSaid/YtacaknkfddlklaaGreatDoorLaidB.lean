/- From what a row lists of package-level tables to the cells that the walks read: arrays of strings, arrays of arrays of whole numbers. No function of the program is named here. The two tables of package code, from the list of a row to the walks' facts. The variables that prim's rows list: what the walks ask of them, and a world for the witness. -/
import Derived.Test.YtacaknkfddlklaaGreatDoorProg
import Derived.OpenShut
import Derived.ProofKit
import Derived.Lib.LaidTab
import Derived.Test.YtacaknkfddlklaaGreatDoorCodeB
import Derived.Test.YtacaknkfddlklaaGreatDoorRows
import Derived.LaidMore
import Derived.LaidLaws
import Derived.Deep.DeepHandedRow
set_option linter.unusedVariables false
set_option linter.unusedSimpArgs false
namespace Go.Proofs.YtacaknkfddlklaaGreatDoor
open Go.ChangeShapes Go.WideShapes Go.ChangeAt Go.RowKit

section
variable {H : Type} {enc : TypeId × Value → H} {P : Program} {w : World} {base : Nat} {spare : Nat → Bool} {held : Bool} {fuel : Nat} {t e i : TypeId} {cs : List Value} {n m : Nat}

theorem take_one {α : Type} {l : List α} {i : Nat} {x : α} (h : (l.drop i).take 1 = [x]) : l[i]? = some x := by
  have := congrArg (fun l => l[0]?) h
  simpa [List.getElem?_take, List.getElem?_drop] using this

theorem strs_of_trod {ls : List (List UInt8)} {p : List MemPlace} (ht : P.underlying t = some (.array n e)) (he : P.underlying e = some .string) (hce : P.cellsOf e = 1) (hct : P.cellsOf t = n)
    (h : DataW.trod enc P w base spare held fuel t cs = some (.agg (ls.map fun l => .lit (.string l)), p)) : cs = ls.map fun l => Value.string ⟨l.toArray⟩ := by
  obtain ⟨xs, m, _, hx, hl, hn, hf⟩ := DataW.trod_array ht h
  have hxs : xs.map (·.1) = ls.map fun l => (DataW.lit (.string l) : DataW H) := by
    have := (Prod.mk.inj hx).1
    injection this with this
    exact this.symm
  have hls : ls.length = n := by
    have := congrArg List.length hxs
    simp at this
    omega
  apply List.ext_getElem?
  intro i
  by_cases hi : i < n
  · have h1 := hf i hi
    rw [hce, Nat.mul_one, List.getElem?_eq_getElem (by omega)] at h1
    obtain ⟨s, hc, hs, _⟩ := DataW.trod_string he h1
    have h2 := congrArg (·[i]?) hxs
    simp only [List.getElem?_map, List.getElem?_eq_getElem (show i < xs.length by omega), List.getElem?_eq_getElem (show i < ls.length by omega), Option.map_some, Option.some.injEq] at h2
    rw [hs] at h2
    injection h2 with h2
    injection h2 with h2
    rw [take_one hc]
    simp only [List.getElem?_map, List.getElem?_eq_getElem (show i < ls.length by omega), Option.map_some, ← h2]
  · rw [List.getElem?_eq_none (by omega), List.getElem?_eq_none (by simp; omega)]

theorem ints_of_trod {ls : List Int} {k : IntKind} {p : List MemPlace} (ht : P.underlying t = some (.array n e)) (he : P.underlying e = some (.int k)) (hce : P.cellsOf e = 1) (hct : P.cellsOf t = n)
    (h : DataW.trod enc P w base spare held fuel t cs = some (.agg (ls.map fun l => .lit (.int k l)), p)) : cs = ls.map fun l => Value.int k l := by
  exact Lib.cells_of_tab (zs := ls) ht he hce hct h

theorem rows_of_trod {ls : List (List Int)} {k : IntKind} {p : List MemPlace} (ht : P.underlying t = some (.array n e)) (he : P.underlying e = some (.array m i)) (hi : P.underlying i = some (.int k)) (hci : P.cellsOf i = 1) (hce : P.cellsOf e = m) (hct : P.cellsOf t = n * m)
    (h : DataW.trod enc P w base spare held fuel t cs = some (.agg (ls.map fun l => .agg (l.map fun x => .lit (.int k x))), p)) :
    cs.length = n * m ∧ ls.length = n ∧ ∀ j l, ls[j]? = some l → (cs.drop (j * m)).take m = l.map fun x => Value.int k x := by
  obtain ⟨xs, m', _, hx, hl, hn, hf⟩ := DataW.trod_array ht h
  have hxs : xs.map (·.1) = ls.map fun l => (DataW.agg (l.map fun x => .lit (.int k x)) : DataW H) := by
    have := (Prod.mk.inj hx).1
    injection this with this
    exact this.symm
  have hls : ls.length = n := by
    have := congrArg List.length hxs
    simp at this
    omega
  refine ⟨by omega, hls, fun j l hj => ?_⟩
  have hjn : j < n := by have := (List.getElem?_eq_some_iff.1 hj).1; omega
  have h1 := hf j hjn
  rw [hce, List.getElem?_eq_getElem (by omega)] at h1
  have h2 := congrArg (·[j]?) hxs
  simp only [List.getElem?_map, List.getElem?_eq_getElem (show j < xs.length by omega), hj, Option.map_some, Option.some.injEq] at h2
  have h3 : xs[j] = (.agg (l.map fun x => .lit (.int k x)), xs[j].2) := Prod.ext h2 rfl
  rw [h3] at h1
  exact ints_of_trod he hi hci hce h1
end

theorem var_block {P : Program} {w : World} {name : String} {g : Nat} {cs : Array Value} (hg : P.globalNamed name = some g) (h : w.var? P name = some cs) : ∃ t fr, w.heap[g]? = some (.cells cs t fr) := by
  unfold World.var? at h
  rw [hg] at h
  simp only [Option.bind_some] at h
  split at h
  · rename_i c t fr hc
    injection h with h
    subst h
    exact ⟨t, fr, hc⟩
  · cases h

end Go.Proofs.YtacaknkfddlklaaGreatDoor
namespace Go.Proofs.YtacaknkfddlklaaGreatDoor
open Go.ChangeShapes Go.WideShapes Go.ChangeAt Go.RowKit

def namesData {H : Type} : DataW H := .agg (opNames.map fun l => .lit (.string l))
def numbersData {H : Type} : DataW H := .agg (opNums.map fun r => .agg (r.map fun x => .lit (.int .i64 x)))
theorem gNames : Tryz.prog.globalNamed "scruple/code.names" = some 1 := by kernel_rfl
theorem gNumbers : Tryz.prog.globalNamed "scruple/code.numbers" = some 0 := by kernel_rfl
theorem tNames : (Tryz.prog.globals[1]?).map (·.type) = some 96 := by kernel_rfl
theorem tNumbers : (Tryz.prog.globals[0]?).map (·.type) = some 95 := by kernel_rfl
theorem names_lit : (opNames.map fun l => Value.string ⟨l.toArray⟩) = namesCells.toList := by rfl
theorem opNums_rows : ∀ j : Fin 42, opNums[j.val]? = some [opNum j.val 0, opNum j.val 1, opNum j.val 2, opNum j.val 3, opNum j.val 4] := by decide

theorem codeLaid_of {W : World} {rest : List (String × DataW Unit)} (h : ∃ ps, DataW.LaidVars Tryz.prog W (("scruple/code.names", namesData) :: ("scruple/code.numbers", numbersData) :: rest) ps) : CodeLaid W := by
  obtain ⟨ps, g, t, cs, fuel, p, q, hg, ht, hvar, hd, ⟨g2, t2, cs2, fuel2, p2, q2, hg2, ht2, hvar2, hd2, _⟩, _⟩ := h
  obtain rfl := Option.some.inj (gNames.symm.trans hg)
  obtain rfl := Option.some.inj (tNames.symm.trans ht)
  obtain rfl := Option.some.inj (gNumbers.symm.trans hg2)
  obtain rfl := Option.some.inj (tNumbers.symm.trans ht2)
  have e1 := strs_of_trod Tryz.underlying96 Tryz.underlying9 (by kernel_rfl) (by kernel_rfl) hd
  rw [names_lit] at e1
  obtain ⟨l1, l2, e2⟩ := rows_of_trod Tryz.underlying95 Tryz.underlying94 Tryz.underlying3 (by kernel_rfl) (by kernel_rfl) (by kernel_rfl) hd2
  refine ⟨?_, ?_⟩
  · obtain ⟨t, fr, hb⟩ := var_block gNames hvar
    exact ⟨t, fr, by rw [hb, show cs = namesCells from Array.toList_inj.1 e1]⟩
  · obtain ⟨t, fr, hb⟩ := var_block gNumbers hvar2
    refine ⟨t, fr, ?_⟩
    rw [hb]
    have e : cs2 = numbersCells := by
      apply Array.toList_inj.1
      apply List.ext_getElem?
      intro i
      by_cases hi : i < 210
      · have hj : i / 5 < 42 := by omega
        have hr : i % 5 < 5 := by omega
        have h1 := e2 (i / 5) _ (opNums_rows ⟨i / 5, hj⟩)
        have h2 := congrArg (·[i % 5]?) h1
        simp only [List.getElem?_take, List.getElem?_drop, hr, if_true] at h2
        have e3 : i / 5 * 5 + i % 5 = i := by omega
        rw [e3] at h2
        rw [h2]
        have e4 := numbers_at (i / 5) (i % 5) hj hr
        rw [e3] at e4
        rw [show numbersCells.toList[i]? = numbersCells[i]? from by simp, e4]
        generalize i % 5 = r at hr
        match r, hr with
        | 0, _ | 1, _ | 2, _ | 3, _ | 4, _ => rfl
      · rw [List.getElem?_eq_none (by omega), List.getElem?_eq_none (by simp [numbersCells]; omega)]
    rw [e]
end Go.Proofs.YtacaknkfddlklaaGreatDoor
namespace Go.Proofs.YtacaknkfddlklaaGreatDoor
open Go.ChangeShapes Go.WideShapes Go.ChangeAt Go.RowKit

abbrev primList : List (String × DataW Unit) := Rows.primTakesRow.laid
theorem codeLaid_prim {W : World} (hL : laidMetH Tryz.prog primList W) : CodeLaid W :=
  codeLaid_of (rest := [("scruple/hash.rounds", Rows.laid_scruple_hash_rounds)]) ⟨hL.choose, hL.choose_spec.1⟩
/-- the cells of a listed table of whole numbers -/
def tabCells : DataW Unit → Array Value
  | .agg ds => (ds.map fun
      | .lit (.int k n) => Value.int k n
      | _ => .nilIface).toArray
  | _ => #[]
/-- a world for the witness: the settled one, the tables holding what their initialisers lay -/
noncomputable def primWorld (os : Os) : World :=
  let w0 := World.holding Tryz.prog os ⟨#[], #[], []⟩
  { w0 with heap := ((w0.heap.modify 1 (fun
      | .cells _ t frozen => .cells namesCells t frozen
      | o => o)).modify 0 (fun
      | .cells _ t frozen => .cells numbersCells t frozen
      | o => o)).modify 3 (fun
      | .cells _ t frozen => .cells (tabCells Rows.laid_scruple_hash_rounds) t frozen
      | o => o) }
set_option maxRecDepth 100000 in
theorem prim_met (os : Os) (args : Array Value) : laidMetH Tryz.prog primList ((primWorld os).forCall (fun _ _ => 0) ⟨#[], args, []⟩).memory := by
  first
  | exact laidMetH_of_parts3 (fuel := 8) (laidMet_of_run' 8 (by kernel_rfl) (by kernel_rfl)) (by kernel_rfl) (by kernel_rfl)
  | exact laidMet_of_run' 8 (by kernel_rfl) (by kernel_rfl)
end Go.Proofs.YtacaknkfddlklaaGreatDoor
