/- An argument that is a node (api.Node), or a slice of them: from the form's reading to RdN; of bulk at most 1048576. -/
import Derived.Test.YthlfeiiolafonaaDoorValOpen
import Derived.Test.YthlfeiiolafonaaDoorNode
set_option linter.unusedVariables false
set_option linter.unusedSimpArgs false
namespace Go.Proofs.YthlfeiiolafonaaDoor
open Go.ChangeShapes Go.WideShapes Go.ChangeAt Go.RowKit

section
variable {H : Type} {enc : TypeId × Value → H} {w : World} {held : Bool}
theorem open_Ns_of {fuel : Nat} {c : Value} {y : DataW H × List MemPlace} (h : DataW.trod enc Tryd.prog w 0 (fun _ => true) held fuel 26 [c] = some y) (hb : Rows.uptoBulk y.1 ≤ 1048576)
    (ih : ∀ n, n < fuel → ∀ (cs : List Value) (x : DataW H × List MemPlace), DataW.trod enc Tryd.prog w 0 (fun _ => true) held n 28 cs = some x → Rows.uptoBulk x.1 ≤ 1048576 → ∃ X, RdN (fun _ => True) w (.agg cs.toArray) X ∧ cs.length = 10) :
    ∃ l : List N, SlForm c l.length ∧ RdNs (fun _ => True) w c 0 l := by
  rcases DataW.trod_slice Tryd.underlying26 h with ⟨hc, _⟩ | ⟨a, len, cap, elems, rest, n', hn', hc, hy, _, hl, hm, hlen, hel, _⟩
  · simp at hc
    subst hc
    exact ⟨[], ⟨none, 0, rfl, by simp, by omega, by simp⟩, by unfold RdNs; trivial⟩
  · simp at hc
    subst hc
    unfold maxLen at hm
    rw [hy] at hb
    simp only [Rows.uptoBulk] at hb
    have hlb := bulk_len (elems.map (·.1))
    rw [List.length_map] at hlb
    have key : ∀ i, i < len → ∃ (p : N × List Value), p.2.length = 10 ∧ (∀ j, j < 10 → w.cell? ((a.add (i * 10)).add j) = p.2[j]?) ∧ RdN (fun _ => True) w (.agg p.2.toArray) p.1 := by
      intro i hi
      have h1 := hel i hi
      rw [List.getElem?_eq_getElem (by omega), show Tryd.prog.cellsOf 28 = 10 by kernel_rfl] at h1
      obtain ⟨cs', hcs, ht⟩ := Option.bind_eq_some_iff.1 h1
      obtain ⟨_, hcl, hat⟩ := World.cells?_some hcs
      have h4 := bulk_part (H := H) (d := elems[i].1) (l := elems.map (·.1)) (List.mem_map.2 ⟨elems[i], List.getElem_mem _, rfl⟩)
      obtain ⟨X, hX, hl10⟩ := ih n' (by omega) cs' _ ht (by omega)
      exact ⟨(X, cs'), hl10, hat, hX⟩
    by_cases h0 : len = 0
    · subst h0
      exact ⟨[], ⟨_, cap, rfl, by simp, by omega, by simp⟩, by unfold RdNs; trivial⟩
    obtain ⟨p0, hp, hz, _⟩ := key 0 (by omega)
    have hz0 := hz 0 (by omega)
    rw [Nat.zero_mul, add_zero', add_zero', List.getElem?_eq_getElem (by omega)] at hz0
    obtain ⟨b, off, rfl⟩ := addr_plain hz0
    haveI : Inhabited (N × List Value) := ⟨p0⟩
    obtain ⟨S, hS⟩ := Go.Deep.choose_lt key
    refine ⟨(List.range len).map fun i => (S i).1, ⟨some ⟨b, off, none⟩, cap, by simp, by simpa using hl, by omega, by simp; omega⟩, RdNs.mk fun i hi => ?_⟩
    have hi' : i < len := by simpa using hi
    obtain ⟨hl10, hz, hX⟩ := hS i hi'
    refine ⟨b, off + (0 + i) * 10, (S i).2, ⟨off, len, cap, rfl, rfl, trivial⟩, hl10, fun j u hj => ?_, by simpa using hX⟩
    have hj' : j < 10 := by
      have := (List.getElem?_eq_some_iff.1 hj).1
      omega
    have := hz j hj'
    rw [add_plain, add_plain, hj] at this
    rw [Nat.zero_add]
    exact this
set_option maxRecDepth 100000 in
theorem open_N : ∀ (fuel : Nat) (cs : List Value) (x : DataW H × List MemPlace), DataW.trod enc Tryd.prog w 0 (fun _ => true) held fuel 28 cs = some x → Rows.uptoBulk x.1 ≤ 1048576 → ∃ X, RdN (fun _ => True) w (.agg cs.toArray) X ∧ cs.length = 10 := by
  intro fuel
  induction fuel using Nat.strongRecOn with
  | _ fuel ih =>
    intro cs x h hb
    obtain ⟨xs, n, rfl, rfl, hl, hxl, hf⟩ := DataW.trod_struct Tryd.underlying28 h
    rw [show Tryd.prog.cellsOf 28 = 10 by kernel_rfl] at hl
    match cs, hl with
    | [c0, c1, c2, c3, c4, c5, c6, c7, c8, c9], _ =>
    match xs, hxl with
    | [y0, y1, y2, y3, y4, y5], _ =>
    have f0 : DataW.trod enc Tryd.prog w 0 (fun _ => true) held n 3 (([c0, c1, c2, c3, c4, c5, c6, c7, c8, c9].drop 0).take (Tryd.prog.cellsOf 3)) = [y0, y1, y2, y3, y4, y5][0]? := hf 0 _ rfl
    rw [show Tryd.prog.cellsOf 3 = 1 by kernel_rfl] at f0
    change DataW.trod enc Tryd.prog w 0 (fun _ => true) held n 3 [c0] = some y0 at f0
    have f1 : DataW.trod enc Tryd.prog w 0 (fun _ => true) held n 9 (([c0, c1, c2, c3, c4, c5, c6, c7, c8, c9].drop 1).take (Tryd.prog.cellsOf 9)) = [y0, y1, y2, y3, y4, y5][1]? := hf 1 _ rfl
    rw [show Tryd.prog.cellsOf 9 = 1 by kernel_rfl] at f1
    change DataW.trod enc Tryd.prog w 0 (fun _ => true) held n 9 [c1] = some y1 at f1
    have f2 : DataW.trod enc Tryd.prog w 0 (fun _ => true) held n 25 (([c0, c1, c2, c3, c4, c5, c6, c7, c8, c9].drop 2).take (Tryd.prog.cellsOf 25)) = [y0, y1, y2, y3, y4, y5][2]? := hf 2 _ rfl
    rw [show Tryd.prog.cellsOf 25 = 5 by kernel_rfl] at f2
    change DataW.trod enc Tryd.prog w 0 (fun _ => true) held n 25 [c2, c3, c4, c5, c6] = some y2 at f2
    have f3 : DataW.trod enc Tryd.prog w 0 (fun _ => true) held n 4 (([c0, c1, c2, c3, c4, c5, c6, c7, c8, c9].drop 7).take (Tryd.prog.cellsOf 4)) = [y0, y1, y2, y3, y4, y5][3]? := hf 3 _ rfl
    rw [show Tryd.prog.cellsOf 4 = 1 by kernel_rfl] at f3
    change DataW.trod enc Tryd.prog w 0 (fun _ => true) held n 4 [c7] = some y3 at f3
    have f4 : DataW.trod enc Tryd.prog w 0 (fun _ => true) held n 26 (([c0, c1, c2, c3, c4, c5, c6, c7, c8, c9].drop 8).take (Tryd.prog.cellsOf 26)) = [y0, y1, y2, y3, y4, y5][4]? := hf 4 _ rfl
    rw [show Tryd.prog.cellsOf 26 = 1 by kernel_rfl] at f4
    change DataW.trod enc Tryd.prog w 0 (fun _ => true) held n 26 [c8] = some y4 at f4
    have f5 : DataW.trod enc Tryd.prog w 0 (fun _ => true) held n 3 (([c0, c1, c2, c3, c4, c5, c6, c7, c8, c9].drop 9).take (Tryd.prog.cellsOf 3)) = [y0, y1, y2, y3, y4, y5][5]? := hf 5 _ rfl
    rw [show Tryd.prog.cellsOf 3 = 1 by kernel_rfl] at f5
    change DataW.trod enc Tryd.prog w 0 (fun _ => true) held n 3 [c9] = some y5 at f5
    obtain ⟨k0, e0, _, w0⟩ := DataW.trod_int Tryd.underlying3 f0
    obtain ⟨s1, e1, d1, _⟩ := DataW.trod_string Tryd.underlying9 f1
    obtain ⟨b3, e3, _⟩ := DataW.trod_bool Tryd.underlying4 f3
    obtain ⟨k5, e5, _, w5⟩ := DataW.trod_int Tryd.underlying3 f5
    simp only [List.cons.injEq, and_true] at e0 e1 e3 e5
    subst e0 e1 e3 e5
    simp only [Lit.wf, Bool.and_eq_true, decide_eq_true_eq] at w0 w5
    simp only [List.map_cons, List.map_nil, Rows.uptoBulk, Rows.uptoBulkAll] at hb
    have hs1 : s1.data.toList.length ≤ 16777216 := by
      have : Rows.uptoBulk y1.1 = s1.data.toList.length + 1 := by rw [d1]; simp [Rows.uptoBulk]
      omega
    obtain ⟨X, hX, _⟩ := open_V n _ _ f2 (by omega)
    obtain ⟨l, hl1, hl2⟩ := open_Ns_of f4 (by omega) (fun n' hn' => ih n' (by omega))
    refine ⟨.mk k0 s1.data.toList X b3 l k5, ?_, rfl⟩
    unfold RdN
    exact ⟨⟨w0.1, w0.2⟩, ⟨w5.1, w5.2⟩, hs1, c2, c3, c4, c5, c6, c8, rfl, hX, hl1, hl2⟩
end
end Go.Proofs.YthlfeiiolafonaaDoor
