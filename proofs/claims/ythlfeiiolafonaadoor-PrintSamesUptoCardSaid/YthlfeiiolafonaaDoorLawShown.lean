/- Contract of the law's shown. -/
import Derived.Test.YthlfeiiolafonaaDoorPrintWP2
import Derived.Test.YthlfeiiolafonaaDoorStillB
set_option linter.unusedVariables false
set_option linter.unusedSimpArgs false
namespace Go.Proofs.YthlfeiiolafonaaDoor
open Go.RowKit Go.IntWalk

def shA : N := .mk 14 [97] V.zero false [] 0
def sh1 : N := .mk 13 [] (.mk 2 1 [] [] []) false [] 0
def shP : N := .mk 17 [43] V.zero false [shA, sh1] 0
def shU : N := .mk 16 [45] V.zero false [shP] 0
def shG : N := .mk 1 [] V.zero false [] 0
theorem sh_expr : exprS shU = ([45, 40, 97, 32, 43, 32, 49, 41], 0) := by decide
theorem sh_prog : progS shU = ([], 180) := by decide
theorem sh_right : rightP shG = true := by decide
abbrev cZ (k : Int) (t : Array UInt8) (vk vn : Int) (kids : Value) : List Value := [.int .i64 k, .string ⟨t⟩, .int .i64 vk, .int .i64 vn, .string ⟨#[]⟩, .slice none 0 0, .slice none 0 0, .bool false, kids, .int .i64 0]
theorem rd_leaf (ok : Nat → Prop) (w : World) (k : Int) (t : List UInt8) (vk vn : Int) (hk : i64ok k) (ht : t.length ≤ 16777216) (h1 : i64ok vk) (h2 : i64ok vn) (kv : Value) (l : List N) (hf : SlForm kv l.length) (hl : RdNs ok w kv 0 l) : RdN ok w (.agg (cZ k t.toArray vk vn kv).toArray) (.mk k t (.mk vk vn [] [] []) false l 0) := by
  unfold RdN
  exact ⟨hk, i64ok_small (by decide) (by decide), ht, _, _, _, _, _, _, rfl, RdV.plain vk vn [] h1 h2 (by simp), hf, hl⟩
theorem cells_at {g : Nat} {arr : Array Value} {t : TypeId} {W : World} (h : Held g arr t W) (o : Nat) (cs : List Value) (hc : ∀ j u, cs[j]? = some u → arr[o + j]? = some u) : CellsAt W g o cs := fun j u hj => h.cell (o + j) (hc j u hj)
/-- the memory with the example's nodes -/
abbrev shW (w : World) : World := (w.alloc (.cells (cZ 14 #[97] 0 0 (.slice none 0 0) ++ cZ 13 #[] 2 1 (.slice none 0 0)).toArray 28)).alloc (.cells (cZ 17 #[43] 0 0 (.slice (some ⟨w.heap.size, 0, none⟩) 2 2)).toArray 28)
theorem sh_rd (w : World) : RdN (fun _ => True) (shW w) (.agg (cZ 16 #[45] 0 0 (.slice (some ⟨w.heap.size + 1, 0, none⟩) 1 1)).toArray) shU := by
  have hA : Held w.heap.size (cZ 14 #[97] 0 0 (.slice none 0 0) ++ cZ 13 #[] 2 1 (.slice none 0 0)).toArray 28 (shW w) := Held.below (Held.at rfl) (one_al _ _)
  have hB : Held (w.heap.size + 1) (cZ 17 #[43] 0 0 (.slice (some ⟨w.heap.size, 0, none⟩) 2 2)).toArray 28 (shW w) := Held.at (by simp)
  have hs : ∀ k : Int, 0 ≤ k → k ≤ 100 → i64ok k := fun k h1 h2 => i64ok_small (by omega) (by omega)
  refine rd_leaf _ _ 16 [45] 0 0 (hs _ (by decide) (by decide)) (by simp) (hs _ (by decide) (by decide)) (hs _ (by decide) (by decide)) _ [shP] ⟨_, _, rfl, by simp, by simp, by simp⟩ ?_
  unfold RdNs
  refine ⟨⟨w.heap.size + 1, 0, _, ⟨0, _, _, rfl, rfl, trivial⟩, rfl, cells_at hB 0 _ (fun j u hj => by simpa using hj), ?_⟩, by unfold RdNs; trivial⟩
  refine rd_leaf _ _ 17 [43] 0 0 (hs _ (by decide) (by decide)) (by simp) (hs _ (by decide) (by decide)) (hs _ (by decide) (by decide)) _ [shA, sh1] ⟨_, _, rfl, by simp, by simp, by simp⟩ ?_
  unfold RdNs
  refine ⟨⟨w.heap.size, 0, cZ 14 #[97] 0 0 (.slice none 0 0), ⟨0, _, _, rfl, rfl, trivial⟩, rfl, cells_at hA 0 _ (fun j u hj => ?_), ?_⟩, ?_⟩
  · have hlt := (List.getElem?_eq_some_iff.1 hj).1
    rw [Nat.zero_add, List.getElem?_toArray, List.getElem?_append_left hlt]
    exact hj
  · exact rd_leaf _ _ 14 [97] 0 0 (hs _ (by decide) (by decide)) (by simp) (hs _ (by decide) (by decide)) (hs _ (by decide) (by decide)) _ [] ⟨_, _, rfl, by simp, by simp, by simp⟩ (by unfold RdNs; trivial)
  · unfold RdNs
    refine ⟨⟨w.heap.size, 10, cZ 13 #[] 2 1 (.slice none 0 0), ⟨0, _, _, rfl, rfl, trivial⟩, rfl, cells_at hA 10 _ (fun j u hj => ?_), ?_⟩, by unfold RdNs; trivial⟩
    · rw [List.getElem?_toArray, List.getElem?_append_right (by simp)]
      simpa using hj
    · exact rd_leaf _ _ 13 [] 2 1 (hs _ (by decide) (by decide)) (by simp) (hs _ (by decide) (by decide)) (hs _ (by decide) (by decide)) _ [] ⟨_, _, rfl, by simp, by simp, by simp⟩ (by unfold RdNs; trivial)
set_option maxRecDepth 20000 in
set_option maxHeartbeats 2000000 in
theorem law_shown (w : World) (hP : PowAt w.heap.size w) : Calls Tryd.prog 5 #[] w fun e w' => e = .returned (.bool true) ∧ Below w.heap.size w w' := by
  have HR := Lib.hid (sh_rd w)
  have HB0 := Lib.hid (two_al w (.cells (cZ 14 #[97] 0 0 (.slice none 0 0) ++ cZ 13 #[] 2 1 (.slice none 0 0)).toArray 28) (.cells (cZ 17 #[43] 0 0 (.slice (some ⟨w.heap.size, 0, none⟩) 2 2)).toArray 28))
  have HP := Lib.hid hP
  have HX := Lib.hid (show HeldN (w.heap.size + 1 + 1) (.int .i64 16) (.string ⟨#[45]⟩) (.int .i64 0) (.int .i64 0) (.string ⟨#[]⟩) (.slice none 0 0) (.slice none 0 0) (.bool false) (.slice (some ⟨w.heap.size + 1, 0, none⟩) 1 1) (.int .i64 0) ((shW w).alloc (.cells (cZ 16 #[45] 0 0 (.slice (some ⟨w.heap.size + 1, 0, none⟩) 1 1)).toArray 28)) from Held.at (by simp))
  have HBx := Lib.hid (bthen HB0.out (one_al (shW w) (.cells (cZ 16 #[45] 0 0 (.slice (some ⟨w.heap.size + 1, 0, none⟩) 1 1)).toArray 28)))
  have HRx := Lib.hid (HR.out.below (one_al (shW w) (.cells (cZ 16 #[45] 0 0 (.slice (some ⟨w.heap.size + 1, 0, none⟩) 1 1)).toArray 28)))
  have HE := Lib.hid (fun (W : World) (v : Value) (hv : RdN (fun _ => True) W v shU) (hb : Below w.heap.size w W) => print_Expr shU v (fun _ => True) W hv ((HP.out.lo hb).up hb.size))
  have HPr := Lib.hid (fun (W : World) (v : Value) (hv : RdN (fun _ => True) W v shU) (hb : Below w.heap.size w W) => print_Program shU v (fun _ => True) W hv ((HP.out.lo hb).up hb.size))
  rw [sh_expr] at HE
  rw [sh_prog] at HPr
  have HG := Lib.hid (fun (W : World) => print_Right shG (.agg (cZ 1 #[] 0 0 (.slice none 0 0)).toArray) (fun _ => True) W (rd_leaf _ _ 1 [] 0 0 (i64ok_small (by decide) (by decide)) (by simp) (i64ok_small (by decide) (by decide)) (i64ok_small (by decide) (by decide)) _ [] ⟨_, _, rfl, by simp, by simp, by simp⟩ (by unfold RdNs; trivial)))
  rw [sh_right] at HG
  clear hP
  go_enter Tryd.func5, Tryd.ntmps5
  obtain ⟨x0, x1, x2, x3, x4, x5, x6, x7, x8, x9⟩ := HeldN.facts HX.out
  go_wp2_with fail
  refine (HE.out _ _ HRx.out HBx.out).mono ?_
  rintro e1 w1 ⟨rfl, hb⟩
  have HB1 := Lib.hid (bthen HBx.out hb)
  have HR1 := Lib.hid (HRx.out.below hb)
  have HX1 := Lib.hid (Held.below HX.out hb)
  clear hb x0 x1 x2 x3 x4 x5 x6 x7 x8 x9
  obtain ⟨x0, x1, x2, x3, x4, x5, x6, x7, x8, x9⟩ := HeldN.facts HX1.out
  go_wp2_with fail
  refine (HPr.out _ _ HR1.out HB1.out).mono ?_
  rintro e1 w2 ⟨rfl, hb⟩
  have HB2 := Lib.hid (bthen HB1.out hb)
  clear hb x0 x1 x2 x3 x4 x5 x6 x7 x8 x9
  go_wp2_with fail
  refine (HG.out _).mono ?_
  rintro e1 w3 ⟨rfl, hb⟩
  have HB3 := Lib.hid (bthen HB2.out hb)
  clear hb
  go_wp2_with fail
  go_ret
  exact ⟨rfl, HB3.out⟩
end Go.Proofs.YthlfeiiolafonaaDoor
