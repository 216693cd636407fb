/- An argument that is a value (api.Value), or a slice of them: from the form's reading to RdV; of bulk at most 1048576. -/
import Derived.Test.YthlfeiiolafonaaDoorRows
import Derived.Test.YthlfeiiolafonaaDoorValB
import Derived.OpenShut
import Derived.ProofKit
import Derived.SliceStrings
import Derived.Deep.Slices
set_option linter.unusedVariables false
set_option linter.unusedSimpArgs false
namespace Go.Proofs.YthlfeiiolafonaaDoor
open Go.ChangeShapes Go.WideShapes Go.ChangeAt Go.RowKit

theorem bulk_one {H : Type} (d : DataW H) : 1 ≤ Rows.uptoBulk d := by
  cases d with
  | lit l => cases l <;> simp [Rows.uptoBulk]
  | _ => simp [Rows.uptoBulk]
theorem bulk_part {H : Type} {d : DataW H} {l : List (DataW H)} (h : d ∈ l) : Rows.uptoBulk d ≤ Rows.uptoBulkAll l := by
  induction l with
  | nil => cases h
  | cons x r ih =>
    simp only [Rows.uptoBulkAll]
    rcases List.mem_cons.1 h with e | e
    · subst e; omega
    · have := ih e; omega
theorem bulk_len {H : Type} (l : List (DataW H)) : l.length ≤ Rows.uptoBulkAll l := by
  induction l with
  | nil => simp [Rows.uptoBulkAll]
  | cons x r ih => have := bulk_one x; simp only [Rows.uptoBulkAll, List.length_cons]; omega

section
variable {H : Type} {enc : TypeId × Value → H} {w : World} {held : Bool}
/-- an address that has a cell -/
theorem addr_plain {a : Addr} {v : Value} (h : w.cell? a = some v) : ∃ b off, a = ⟨b, off, none⟩ := by
  obtain ⟨b, off, spot⟩ := a
  have hspot : spot = none := by simpa using World.cell?_spot h
  subst hspot
  exact ⟨b, off, rfl⟩
theorem add_plain (b off j : Nat) : (⟨b, off, none⟩ : Addr).add j = ⟨b, off + j, none⟩ := by unfold Addr.add; split <;> simp_all
theorem add_zero' (a : Addr) : a.add 0 = a := by simp [Addr.add]

theorem open_K {fuel : Nat} {c : Value} {y : DataW H × List MemPlace} (h : DataW.trod enc Tryd.prog w 0 (fun _ => true) held fuel 23 [c] = some y) (hb : Rows.uptoBulk y.1 ≤ 1048576) :
    ∃ k, RdK (fun _ => True) w c k := by
  rcases DataW.trod_slice Tryd.underlying23 h with ⟨hc, _⟩ | ⟨a, len, cap, elems, rest, n, _, hc, rfl, _, hl, hm, hlen, hel, _⟩
  · simp at hc
    subst hc
    exact ⟨[], RdK.nil _ _ _ _ (by omega)⟩
  · simp at hc
    subst hc
    unfold maxLen at hm
    simp only [Rows.uptoBulk] at hb
    have hlb := bulk_len (elems.map (·.1))
    rw [List.length_map] at hlb
    have key : ∀ i, i < len → ∃ (s : List UInt8), w.cell? (a.add i) = some (.string ⟨s.toArray⟩) ∧ s.length ≤ 16777216 := by
      intro i hi
      have h1 := hel i hi
      rw [List.getElem?_eq_getElem (by omega), show Tryd.prog.cellsOf 9 = 1 by kernel_rfl] at h1
      obtain ⟨cs', hcs, ht⟩ := Option.bind_eq_some_iff.1 h1
      obtain ⟨_, hcl, hat⟩ := World.cells?_some hcs
      obtain ⟨s, hs, hd, hsz⟩ := DataW.trod_string Tryd.underlying9 ht
      subst hs
      have h2 := hat 0 (by omega)
      rw [add_zero', Nat.mul_one] at h2
      have h4 := bulk_part (H := H) (d := elems[i].1) (l := elems.map (·.1)) (List.mem_map.2 ⟨elems[i], List.getElem_mem _, rfl⟩)
      rw [hd] at h4
      simp only [Rows.uptoBulk] at h4
      exact ⟨s.data.toList, h2, by omega⟩
    by_cases h0 : len = 0
    · subst h0
      exact ⟨[], RdK.nil _ _ _ _ (by omega)⟩
    obtain ⟨s0, k0, _⟩ := key 0 (by omega)
    rw [add_zero'] at k0
    obtain ⟨b, off, rfl⟩ := addr_plain k0
    obtain ⟨S, hS⟩ := Go.Deep.choose_lt key
    refine ⟨(List.range len).map S, ⟨⟨some ⟨b, off, none⟩, cap, by simp, by simpa using hl, by omega, by simp; omega⟩, fun i hi => ?_⟩⟩
    have hi' : i < len := by simpa using hi
    obtain ⟨h3, h4⟩ := hS i hi'
    rw [add_plain] at h3
    exact ⟨b, off + i, ⟨off, len, cap, rfl, by omega, trivial⟩, by simpa using h3, by simpa using h4⟩

set_option maxRecDepth 100000 in
theorem open_V : ∀ (fuel : Nat) (cs : List Value) (x : DataW H × List MemPlace), DataW.trod enc Tryd.prog w 0 (fun _ => true) held fuel 25 cs = some x → Rows.uptoBulk x.1 ≤ 1048576 → ∃ X, RdV (fun _ => True) w (.agg cs.toArray) X ∧ cs.length = 5 := by
  intro fuel
  induction fuel using Nat.strongRecOn with
  | _ fuel ih =>
    intro cs x h hb
    obtain ⟨xs, n, rfl, rfl, hl, hxl, hf⟩ := DataW.trod_struct Tryd.underlying25 h
    rw [show Tryd.prog.cellsOf 25 = 5 by kernel_rfl] at hl
    match cs, hl with
    | [c0, c1, c2, c3, c4], _ =>
    match xs, hxl with
    | [y0, y1, y2, y3, y4], _ =>
    have f0 : DataW.trod enc Tryd.prog w 0 (fun _ => true) held n 3 (([c0, c1, c2, c3, c4].drop 0).take (Tryd.prog.cellsOf 3)) = [y0, y1, y2, y3, y4][0]? := hf 0 _ rfl
    rw [show Tryd.prog.cellsOf 3 = 1 by kernel_rfl] at f0
    change DataW.trod enc Tryd.prog w 0 (fun _ => true) held n 3 [c0] = some y0 at f0
    have f1 : DataW.trod enc Tryd.prog w 0 (fun _ => true) held n 2 (([c0, c1, c2, c3, c4].drop 1).take (Tryd.prog.cellsOf 2)) = [y0, y1, y2, y3, y4][1]? := hf 1 _ rfl
    rw [show Tryd.prog.cellsOf 2 = 1 by kernel_rfl] at f1
    change DataW.trod enc Tryd.prog w 0 (fun _ => true) held n 2 [c1] = some y1 at f1
    have f2 : DataW.trod enc Tryd.prog w 0 (fun _ => true) held n 9 (([c0, c1, c2, c3, c4].drop 2).take (Tryd.prog.cellsOf 9)) = [y0, y1, y2, y3, y4][2]? := hf 2 _ rfl
    rw [show Tryd.prog.cellsOf 9 = 1 by kernel_rfl] at f2
    change DataW.trod enc Tryd.prog w 0 (fun _ => true) held n 9 [c2] = some y2 at f2
    have f3 : DataW.trod enc Tryd.prog w 0 (fun _ => true) held n 22 (([c0, c1, c2, c3, c4].drop 3).take (Tryd.prog.cellsOf 22)) = [y0, y1, y2, y3, y4][3]? := hf 3 _ rfl
    rw [show Tryd.prog.cellsOf 22 = 1 by kernel_rfl] at f3
    change DataW.trod enc Tryd.prog w 0 (fun _ => true) held n 22 [c3] = some y3 at f3
    have f4 : DataW.trod enc Tryd.prog w 0 (fun _ => true) held n 23 (([c0, c1, c2, c3, c4].drop 4).take (Tryd.prog.cellsOf 23)) = [y0, y1, y2, y3, y4][4]? := hf 4 _ rfl
    rw [show Tryd.prog.cellsOf 23 = 1 by kernel_rfl] at f4
    change DataW.trod enc Tryd.prog w 0 (fun _ => true) held n 23 [c4] = some y4 at f4
    obtain ⟨k0, e0, _, w0⟩ := DataW.trod_int Tryd.underlying3 f0
    obtain ⟨k1, e1, _, w1⟩ := DataW.trod_int Tryd.underlying2 f1
    obtain ⟨s2, e2, d2, _⟩ := DataW.trod_string Tryd.underlying9 f2
    simp only [List.cons.injEq, and_true] at e0 e1 e2
    subst e0 e1 e2
    simp only [Lit.wf, Bool.and_eq_true, decide_eq_true_eq] at w0 w1
    simp only [List.map_cons, List.map_nil, Rows.uptoBulk, Rows.uptoBulkAll] at hb
    have hs2 : s2.data.toList.length ≤ 16777216 := by
      have : Rows.uptoBulk y2.1 = s2.data.toList.length + 1 := by rw [d2]; simp [Rows.uptoBulk]
      omega
    have hb2 : Rows.uptoBulk y2.1 = s2.data.toList.length + 1 := by rw [d2]; simp [Rows.uptoBulk]
    obtain ⟨k, hk⟩ := open_K f4 (by omega)
    have hL : ∃ l : List V, SlForm c3 l.length ∧ RdVs (fun _ => True) w c3 0 l := by
      rcases DataW.trod_slice Tryd.underlying22 f3 with ⟨hc, _⟩ | ⟨a, len, cap, elems, rest, n', hn', hc, hy, _, hl, hm, hlen, hel, _⟩
      · simp at hc
        subst hc
        exact ⟨[], ⟨none, 0, rfl, by simp, by omega, by simp⟩, by unfold RdVs; trivial⟩
      · simp at hc
        subst hc
        unfold maxLen at hm
        have hby : Rows.uptoBulk y3.1 ≤ 1048576 := by omega
        rw [hy] at hby
        simp only [Rows.uptoBulk] at hby
        have hlb := bulk_len (elems.map (·.1))
        rw [List.length_map] at hlb
        have key : ∀ i, i < len → ∃ (p : V × Value), (∃ z0 z1 z2 z3 z4, p.2 = .agg #[z0, z1, z2, z3, z4] ∧ ∀ j, j < 5 → w.cell? ((a.add (i * 5)).add j) = [z0, z1, z2, z3, z4][j]?) ∧ RdV (fun _ => True) w p.2 p.1 := by
          intro i hi
          have h1 := hel i hi
          rw [List.getElem?_eq_getElem (by omega), show Tryd.prog.cellsOf 25 = 5 by kernel_rfl] at h1
          obtain ⟨cs', hcs, ht⟩ := Option.bind_eq_some_iff.1 h1
          obtain ⟨_, hcl, hat⟩ := World.cells?_some hcs
          have h4 := bulk_part (H := H) (d := elems[i].1) (l := elems.map (·.1)) (List.mem_map.2 ⟨elems[i], List.getElem_mem _, rfl⟩)
          obtain ⟨X, hX, hl5⟩ := ih n' (by omega) cs' _ ht (by omega)
          obtain ⟨z0, z1, z2, z3, z4, rfl⟩ : ∃ z0 z1 z2 z3 z4, cs' = [z0, z1, z2, z3, z4] := by
            match cs', hl5 with
            | [z0, z1, z2, z3, z4], _ => exact ⟨z0, z1, z2, z3, z4, rfl⟩
          exact ⟨(X, .agg #[z0, z1, z2, z3, z4]), ⟨z0, z1, z2, z3, z4, rfl, hat⟩, hX⟩
        by_cases h0 : len = 0
        · subst h0
          exact ⟨[], ⟨_, cap, rfl, by simp, by omega, by simp⟩, by unfold RdVs; trivial⟩
        obtain ⟨p0, ⟨z0, z1, z2, z3, z4, _, hz⟩, _⟩ := key 0 (by omega)
        have hz0 := hz 0 (by omega)
        rw [Nat.zero_mul, add_zero', add_zero'] at hz0
        obtain ⟨b, off, rfl⟩ := addr_plain hz0
        haveI : Inhabited (V × Value) := ⟨p0⟩
        obtain ⟨S, hS⟩ := Go.Deep.choose_lt key
        refine ⟨(List.range len).map fun i => (S i).1, ⟨some ⟨b, off, none⟩, cap, by simp, by simpa using hl, by omega, by simp; omega⟩, RdVs.mk fun i hi => ?_⟩
        have hi' : i < len := by simpa using hi
        obtain ⟨⟨z0, z1, z2, z3, z4, e, hz⟩, hX⟩ := hS i hi'
        have g0 := hz 0 (by omega)
        have g1 := hz 1 (by omega)
        have g2 := hz 2 (by omega)
        have g3 := hz 3 (by omega)
        have g4 := hz 4 (by omega)
        simp only [add_plain, Nat.add_zero, List.getElem?_cons_zero, List.getElem?_cons_succ] at g0 g1 g2 g3 g4
        refine ⟨b, off + (0 + i) * 5, (S i).2, ⟨off, len, cap, rfl, rfl, trivial⟩, ⟨z0, z1, z2, z3, z4, e, ?_, ?_, ?_, ?_, ?_⟩, by simpa using hX⟩ <;> rw [Nat.zero_add] <;> assumption
    obtain ⟨l, hl1, hl2⟩ := hL
    refine ⟨.mk k0 k1 s2.data.toList l k, RdV.close ⟨w0.1, w0.2⟩ ⟨w1.1, w1.2⟩ hs2 hl1 hl2 hk, rfl⟩
end
end Go.Proofs.YthlfeiiolafonaaDoor
