/- The two tables of package code, from the list of a row to the walks' facts. -/
import Derived.Test.YtacaknkfddlklaaGreatDoorLaid
import Derived.Test.YtacaknkfddlklaaGreatDoorCodeInfo
set_option linter.unusedVariables false
set_option linter.unusedSimpArgs false
namespace Go.Proofs.YtacaknkfddlklaaGreatDoor
open Go.ChangeShapes Go.WideShapes Go.ChangeAt Go.RowKit

def namesData {H : Type} : DataW H := .agg (opNames.map fun l => .lit (.string l))
def numbersData {H : Type} : DataW H := .agg (opNums.map fun r => .agg (r.map fun x => .lit (.int .i64 x)))
theorem gNames : Tryz.prog.globalNamed "scruple/code.names" = some 1 := by kernel_rfl
theorem gNumbers : Tryz.prog.globalNamed "scruple/code.numbers" = some 0 := by kernel_rfl
theorem tNames : (Tryz.prog.globals[1]?).map (·.type) = some 96 := by kernel_rfl
theorem tNumbers : (Tryz.prog.globals[0]?).map (·.type) = some 95 := by kernel_rfl
theorem names_lit : (opNames.map fun l => Value.string ⟨l.toArray⟩) = namesCells.toList := by rfl
theorem opNums_rows : ∀ j : Fin 42, opNums[j.val]? = some [opNum j.val 0, opNum j.val 1, opNum j.val 2, opNum j.val 3, opNum j.val 4] := by decide

theorem codeLaid_of {W : World} {rest : List (String × DataW Unit)} (h : ∃ ps, DataW.LaidVars Tryz.prog W (("scruple/code.names", namesData) :: ("scruple/code.numbers", numbersData) :: rest) ps) : CodeLaid W := by
  obtain ⟨ps, g, t, cs, fuel, p, q, hg, ht, hvar, hd, ⟨g2, t2, cs2, fuel2, p2, q2, hg2, ht2, hvar2, hd2, _⟩, _⟩ := h
  obtain rfl := Option.some.inj (gNames.symm.trans hg)
  obtain rfl := Option.some.inj (tNames.symm.trans ht)
  obtain rfl := Option.some.inj (gNumbers.symm.trans hg2)
  obtain rfl := Option.some.inj (tNumbers.symm.trans ht2)
  have e1 := strs_of_trod Tryz.underlying96 Tryz.underlying9 (by kernel_rfl) (by kernel_rfl) hd
  rw [names_lit] at e1
  obtain ⟨l1, l2, e2⟩ := rows_of_trod Tryz.underlying95 Tryz.underlying94 Tryz.underlying3 (by kernel_rfl) (by kernel_rfl) (by kernel_rfl) hd2
  refine ⟨?_, ?_⟩
  · obtain ⟨t, fr, hb⟩ := var_block gNames hvar
    exact ⟨t, fr, by rw [hb, show cs = namesCells from Array.toList_inj.1 e1]⟩
  · obtain ⟨t, fr, hb⟩ := var_block gNumbers hvar2
    refine ⟨t, fr, ?_⟩
    rw [hb]
    have e : cs2 = numbersCells := by
      apply Array.toList_inj.1
      apply List.ext_getElem?
      intro i
      by_cases hi : i < 210
      · have hj : i / 5 < 42 := by omega
        have hr : i % 5 < 5 := by omega
        have h1 := e2 (i / 5) _ (opNums_rows ⟨i / 5, hj⟩)
        have h2 := congrArg (·[i % 5]?) h1
        simp only [List.getElem?_take, List.getElem?_drop, hr, if_true] at h2
        have e3 : i / 5 * 5 + i % 5 = i := by omega
        rw [e3] at h2
        rw [h2]
        have e4 := numbers_at (i / 5) (i % 5) hj hr
        rw [e3] at e4
        rw [show numbersCells.toList[i]? = numbersCells[i]? from by simp, e4]
        generalize i % 5 = r at hr
        match r, hr with
        | 0, _ | 1, _ | 2, _ | 3, _ | 4, _ => rfl
      · rw [List.getElem?_eq_none (by omega), List.getElem?_eq_none (by simp [numbersCells]; omega)]
    rw [e]
end Go.Proofs.YtacaknkfddlklaaGreatDoor
