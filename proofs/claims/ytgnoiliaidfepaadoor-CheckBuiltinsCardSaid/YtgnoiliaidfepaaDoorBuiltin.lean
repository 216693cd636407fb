/- Contracts of the reference's Info and of check.Builtin and the reference's Builtin, and the law's walk: both tell the same of every name. -/
import Derived.Test.YtgnoiliaidfepaaDoorCode
set_option linter.unusedVariables false
set_option linter.unusedSimpArgs false
namespace Go.Proofs.YtgnoiliaidfepaaDoor
open Go.RowKit

def zInfo : Array Value := #[.string ⟨#[]⟩, .int .i64 0, .int .i64 0, .int .i64 0, .int .i64 0, .int .i64 0]
theorem below_setRow {B : Nat} {a w : World} (h : Below B a w) (g : Nat) (hg : B ≤ g) (cs : Array Value) : Below B a (w.setRow g cs) :=
  h.trans ⟨rfl, rfl, rfl, by simp, fun k hk => setRow_other w g k cs (by omega)⟩
theorem refInfo_some (k : Nat) (w : World) (h2 : k < 41) :
    Calls Tryd.prog 24 #[.int .i64 ((k : Int) + 1)] w fun e w' => e = .returned (.tuple #[infoV (k + 1), .bool true]) ∧ Below w.heap.size w w' := by
  go_enter Tryd.func24, Tryd.ntmps24
  go_wp2_with fail
  refine (refRows' _).mono ?_
  rintro e w1 ⟨rfl, hb1, hs1, hc1⟩
  simp only [World.size_alloc] at hs1 hc1
  have hblk : w1.heap[w.heap.size]? = some (.cells zInfo 51) := (hb1.block _ (by simp)).trans (Go.heap_alloc_new w _)
  have e0 := hc1 (k * 6) (by omega)
  rw [rowCell_name] at e0
  have e1 := hc1 (k * 6 + 1) (by omega)
  rw [rowCell_num k 0 (by omega)] at e1
  have e2 := hc1 (k * 6 + 2) (by omega)
  rw [rowCell_num k 1 (by omega)] at e2
  have e3 := hc1 (k * 6 + 3) (by omega)
  rw [rowCell_num k 2 (by omega)] at e3
  have e4 := hc1 (k * 6 + 4) (by omega)
  rw [rowCell_num k 3 (by omega)] at e4
  have e5 := hc1 (k * 6 + 5) (by omega)
  rw [rowCell_num k 4 (by omega)] at e5
  have HB := Lib.hid hb1
  have HBlk := Lib.hid hblk
  clear hc1 hb1 hblk
  have hk1 : ((k : Int) + 1 - 1).toNat = k := by omega
  go_wp2_with (refine wpList_store_row rfl 51 (.tmp 2) (.tmp 19) rfl w.heap.size _ rfl rfl 51 _ HBlk.out (by kernel_rfl) (by rfl) (by kernel_rfl) ?_)
  have hq := fun j => cell_setRow_same w1 w.heap.size j zInfo #[.string (opNameS (k + 1)), .int .i64 (opNum (k + 1) 0), .int .i64 (opNum (k + 1) 1), .int .i64 (opNum (k + 1) 2), .int .i64 (opNum (k + 1) 3), .int .i64 (opNum (k + 1) 4)] 51 (0, 0) HBlk.out
  refine bodyPost_ret (v := .tuple #[infoV (k + 1), .bool true]) (by simp [results, infoV, Tryd.results24, go_sem, hq]) rfl ⟨rfl, ?_⟩
  exact below_setRow (((Below.refl _ _).alloc (Nat.le_refl _) _).trans (HB.out.mono (by simp))) _ (Nat.le_refl _) _

theorem builtin_no (s : ByteArray) (w : World) (hl : Hid (CodeLaid w)) (h : named s.data.toList < 27) :
    Calls Tryd.prog 9 #[.string s] w fun e w' => e = .returned (.tuple #[.int .i64 (builtinOp s.data.toList), .int .i64 (builtinTakes s.data.toList), .bool (isBuiltin s.data.toList)]) ∧ Below w.heap.size w w' := by
  have hfin : Hid (builtinOp s.data.toList = 0 ∧ builtinTakes s.data.toList = 0 ∧ isBuiltin s.data.toList = false) :=
    ⟨by unfold builtinOp; rw [if_neg (by omega)], by unfold builtinTakes; rw [if_neg (by omega)], by unfold isBuiltin; simpa using h⟩
  have h' : (named s.data.toList : Int) < 27 := by omega
  clear h
  go_enter Tryd.func9, Tryd.ntmps9
  go_wp2_with fail
  refine (Named_calls _ _ hl).mono ?_
  rintro e w1 ⟨rfl, rfl⟩
  generalize named s.data.toList = n at h'
  go_wp2
  all_goals go_ret3
  all_goals (obtain ⟨e1, e2, e3⟩ := hfin.out; rw [e1, e2, e3]; exact ⟨rfl, Below.refl _ _⟩)

theorem builtin_yes (s : ByteArray) (w : World) (hl : Hid (CodeLaid w)) (h : 27 ≤ named s.data.toList) :
    Calls Tryd.prog 9 #[.string s] w fun e w' => e = .returned (.tuple #[.int .i64 (builtinOp s.data.toList), .int .i64 (builtinTakes s.data.toList), .bool (isBuiltin s.data.toList)]) ∧ Below w.heap.size w w' := by
  have hfin : Hid (builtinOp s.data.toList = named s.data.toList ∧ builtinTakes s.data.toList = opNum (named s.data.toList) 1 ∧ isBuiltin s.data.toList = true) :=
    ⟨by unfold builtinOp; rw [if_pos h], by unfold builtinTakes; rw [if_pos h], by unfold isBuiltin; simpa using h⟩
  have hle := named_le s.data.toList
  go_enter Tryd.func9, Tryd.ntmps9
  go_wp2_with fail
  refine (Named_calls _ _ hl).mono ?_
  rintro e w1 ⟨rfl, rfl⟩
  generalize named s.data.toList = n at h hle hfin
  have h' : 0 < n := by omega
  have h2 : 27 ≤ (n : Int) := by omega
  go_wp2_with (go_at_call 22; refine (Info_some _ _ hl (by omega) (by omega)).mono ?_; rintro e w1 ⟨rfl, hb1⟩)
  go_quiet (fail)
  go_wp2
  go_ret3
  obtain ⟨e1, e2, e3⟩ := hfin.out
  rw [e1, e2, e3]
  exact ⟨rfl, below_drewN ((hb1.alloc hb1.size _)) _⟩

theorem check_Builtin (s : ByteArray) (w : World) (hl : Hid (CodeLaid w)) :
    Calls Tryd.prog 9 #[.string s] w fun e w' => e = .returned (.tuple #[.int .i64 (builtinOp s.data.toList), .int .i64 (builtinTakes s.data.toList), .bool (isBuiltin s.data.toList)]) ∧ Below w.heap.size w w' := by
  by_cases h : 27 ≤ named s.data.toList
  · exact builtin_yes s w hl h
  · exact builtin_no s w hl (by omega)

theorem ref_Builtin (s : ByteArray) (w : World) :
    Calls Tryd.prog 10 #[.string s] w fun e w' => e = .returned (.tuple #[.int .i64 (builtinOp s.data.toList), .int .i64 (builtinTakes s.data.toList), .bool (isBuiltin s.data.toList)]) ∧ Below w.heap.size w w' := by
  by_cases h : 27 ≤ named s.data.toList
  · have hfin : Hid (builtinOp s.data.toList = named s.data.toList ∧ builtinTakes s.data.toList = opNum (named s.data.toList) 1 ∧ isBuiltin s.data.toList = true) :=
      ⟨by unfold builtinOp; rw [if_pos h], by unfold builtinTakes; rw [if_pos h], by unfold isBuiltin; simpa using h⟩
    have hle := named_le s.data.toList
    go_enter Tryd.func10, Tryd.ntmps10
    go_wp2_with fail
    refine (refNamed _ _).mono ?_
    rintro e w0 ⟨rfl, hb0⟩
    generalize named s.data.toList = n at h hle hfin
    obtain ⟨k, rfl⟩ : ∃ k, n = k + 1 := ⟨n - 1, by omega⟩
    have h2 : 27 ≤ (k : Int) + 1 := by omega
    have hk : k < 41 := by omega
    clear h hle
    go_wp2_with (go_at_call 24; refine (refInfo_some _ _ hk).mono ?_; rintro e w1 ⟨rfl, hb1⟩)
    go_quiet (fail)
    go_wp2
    go_ret3
    obtain ⟨e1, e2, e3⟩ := hfin.out
    rw [e1, e2, e3]
    exact ⟨rfl, below_drewN (((bthen hb0 hb1).alloc (bthen hb0 hb1).size _)) _⟩
  · have hfin : Hid (builtinOp s.data.toList = 0 ∧ builtinTakes s.data.toList = 0 ∧ isBuiltin s.data.toList = false) :=
      ⟨by unfold builtinOp; rw [if_neg h], by unfold builtinTakes; rw [if_neg h], by unfold isBuiltin; simp; omega⟩
    have h' : (named s.data.toList : Int) < 27 := by omega
    clear h
    go_enter Tryd.func10, Tryd.ntmps10
    go_wp2_with fail
    refine (refNamed _ _).mono ?_
    rintro e w0 ⟨rfl, hb0⟩
    generalize named s.data.toList = n at h'
    go_wp2
    all_goals go_ret3
    all_goals (obtain ⟨e1, e2, e3⟩ := hfin.out; rw [e1, e2, e3]; exact ⟨rfl, hb0⟩)

theorem law_CheckBuiltins (s : ByteArray) (w : World) (hl : Hid (CodeLaid w)) :
    Calls Tryd.prog 3 #[.string s] w fun e w' => e = .returned (.bool true) ∧ Below w.heap.size w w' := by
  have e1 : builtinOp [115, 108, 105, 99, 101] = 30 := by decide
  have e2 : builtinTakes [115, 108, 105, 99, 101] = 3 := by decide
  have e3 : isBuiltin [115, 108, 105, 99, 101] = true := by decide
  go_enter Tryd.func3, Tryd.ntmps3
  go_wp2_with fail
  refine (check_Builtin _ _ hl).mono ?_
  rintro e w1 ⟨rfl, hb1⟩
  go_wp2_with fail
  refine (check_Builtin _ _ (Lib.hid (hl.out.below hb1))).mono ?_
  rintro e w2 ⟨rfl, hb2⟩
  go_wp2_with fail
  refine (ref_Builtin _ _).mono ?_
  rintro e w3 ⟨rfl, hb3⟩
  generalize builtinOp s.data.toList = x
  generalize builtinTakes s.data.toList = y
  generalize isBuiltin s.data.toList = z
  go_wp2
  go_ret
  exact ⟨rfl, bthen (bthen hb1 hb2) hb3⟩
end Go.Proofs.YtgnoiliaidfepaaDoor
