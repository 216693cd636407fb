/- From what a row lists of package-level tables to the cells that the walks read: arrays of strings, arrays of arrays of whole numbers. No function of the program is named here. -/
import Derived.Test.YtacaknkfddlklaaGreatDoorProg
import Derived.OpenShut
import Derived.ProofKit
import Derived.Lib.LaidTab
set_option linter.unusedVariables false
set_option linter.unusedSimpArgs false
namespace Go.Proofs.YtacaknkfddlklaaGreatDoor
open Go.ChangeShapes Go.WideShapes Go.ChangeAt Go.RowKit

section
variable {H : Type} {enc : TypeId × Value → H} {P : Program} {w : World} {base : Nat} {spare : Nat → Bool} {held : Bool} {fuel : Nat} {t e i : TypeId} {cs : List Value} {n m : Nat}

theorem take_one {α : Type} {l : List α} {i : Nat} {x : α} (h : (l.drop i).take 1 = [x]) : l[i]? = some x := by
  have := congrArg (fun l => l[0]?) h
  simpa [List.getElem?_take, List.getElem?_drop] using this

theorem strs_of_trod {ls : List (List UInt8)} {p : List MemPlace} (ht : P.underlying t = some (.array n e)) (he : P.underlying e = some .string) (hce : P.cellsOf e = 1) (hct : P.cellsOf t = n)
    (h : DataW.trod enc P w base spare held fuel t cs = some (.agg (ls.map fun l => .lit (.string l)), p)) : cs = ls.map fun l => Value.string ⟨l.toArray⟩ := by
  obtain ⟨xs, m, _, hx, hl, hn, hf⟩ := DataW.trod_array ht h
  have hxs : xs.map (·.1) = ls.map fun l => (DataW.lit (.string l) : DataW H) := by
    have := (Prod.mk.inj hx).1
    injection this with this
    exact this.symm
  have hls : ls.length = n := by
    have := congrArg List.length hxs
    simp at this
    omega
  apply List.ext_getElem?
  intro i
  by_cases hi : i < n
  · have h1 := hf i hi
    rw [hce, Nat.mul_one, List.getElem?_eq_getElem (by omega)] at h1
    obtain ⟨s, hc, hs, _⟩ := DataW.trod_string he h1
    have h2 := congrArg (·[i]?) hxs
    simp only [List.getElem?_map, List.getElem?_eq_getElem (show i < xs.length by omega), List.getElem?_eq_getElem (show i < ls.length by omega), Option.map_some, Option.some.injEq] at h2
    rw [hs] at h2
    injection h2 with h2
    injection h2 with h2
    rw [take_one hc]
    simp only [List.getElem?_map, List.getElem?_eq_getElem (show i < ls.length by omega), Option.map_some, ← h2]
  · rw [List.getElem?_eq_none (by omega), List.getElem?_eq_none (by simp; omega)]

theorem ints_of_trod {ls : List Int} {k : IntKind} {p : List MemPlace} (ht : P.underlying t = some (.array n e)) (he : P.underlying e = some (.int k)) (hce : P.cellsOf e = 1) (hct : P.cellsOf t = n)
    (h : DataW.trod enc P w base spare held fuel t cs = some (.agg (ls.map fun l => .lit (.int k l)), p)) : cs = ls.map fun l => Value.int k l := by
  exact Lib.cells_of_tab (zs := ls) ht he hce hct h

theorem rows_of_trod {ls : List (List Int)} {k : IntKind} {p : List MemPlace} (ht : P.underlying t = some (.array n e)) (he : P.underlying e = some (.array m i)) (hi : P.underlying i = some (.int k)) (hci : P.cellsOf i = 1) (hce : P.cellsOf e = m) (hct : P.cellsOf t = n * m)
    (h : DataW.trod enc P w base spare held fuel t cs = some (.agg (ls.map fun l => .agg (l.map fun x => .lit (.int k x))), p)) :
    cs.length = n * m ∧ ls.length = n ∧ ∀ j l, ls[j]? = some l → (cs.drop (j * m)).take m = l.map fun x => Value.int k x := by
  obtain ⟨xs, m', _, hx, hl, hn, hf⟩ := DataW.trod_array ht h
  have hxs : xs.map (·.1) = ls.map fun l => (DataW.agg (l.map fun x => .lit (.int k x)) : DataW H) := by
    have := (Prod.mk.inj hx).1
    injection this with this
    exact this.symm
  have hls : ls.length = n := by
    have := congrArg List.length hxs
    simp at this
    omega
  refine ⟨by omega, hls, fun j l hj => ?_⟩
  have hjn : j < n := by have := (List.getElem?_eq_some_iff.1 hj).1; omega
  have h1 := hf j hjn
  rw [hce, List.getElem?_eq_getElem (by omega)] at h1
  have h2 := congrArg (·[j]?) hxs
  simp only [List.getElem?_map, List.getElem?_eq_getElem (show j < xs.length by omega), hj, Option.map_some, Option.some.injEq] at h2
  have h3 : xs[j] = (.agg (l.map fun x => .lit (.int k x)), xs[j].2) := Prod.ext h2 rfl
  rw [h3] at h1
  exact ints_of_trod he hi hci hce h1
end

theorem var_block {P : Program} {w : World} {name : String} {g : Nat} {cs : Array Value} (hg : P.globalNamed name = some g) (h : w.var? P name = some cs) : ∃ t fr, w.heap[g]? = some (.cells cs t fr) := by
  unfold World.var? at h
  rw [hg] at h
  simp only [Option.bind_some] at h
  split at h
  · rename_i c t fr hc
    injection h with h
    subst h
    exact ⟨t, fr, hc⟩
  · cases h

end Go.Proofs.YtacaknkfddlklaaGreatDoor
