/- An argument that is a value (api.Value), or a slice of them: from the form's reading to RdV; of bulk at most 1048576. An argument that is a node (api.Node), or a slice of them: from the form's reading to RdN; of bulk at most 1048576. Rows of values, keys, nodes as cells: appended, owned. No function of the program is named here. A tree that a call made: each row of kids in a block of its own. No function of the program is named here. -/
import Derived.Test.YtlnhhffhmeekoaaGreatDoorRows
import Derived.Test.YtlnhhffhmeekoaaGreatDoorValB
import Derived.OpenShut
import Derived.ProofKit
import Derived.SliceStrings
import Derived.Deep.Slices
import Derived.Test.YtlnhhffhmeekoaaGreatDoorNode
import Derived.Deep.DeepCutAuto
import Derived.Deep.RegionLaw
import Derived.Test.YtlnhhffhmeekoaaGreatDoorBoxes
set_option linter.unusedVariables false
set_option linter.unusedSimpArgs false
namespace Go.Proofs.YtlnhhffhmeekoaaGreatDoor
open Go.ChangeShapes Go.WideShapes Go.ChangeAt Go.RowKit

theorem bulk_one {H : Type} (d : DataW H) : 1 ≤ Rows.uptoBulk d := by
  cases d with
  | lit l => cases l <;> simp [Rows.uptoBulk]
  | _ => simp [Rows.uptoBulk]
theorem bulk_part {H : Type} {d : DataW H} {l : List (DataW H)} (h : d ∈ l) : Rows.uptoBulk d ≤ Rows.uptoBulkAll l := by
  induction l with
  | nil => cases h
  | cons x r ih =>
    simp only [Rows.uptoBulkAll]
    rcases List.mem_cons.1 h with e | e
    · subst e; omega
    · have := ih e; omega
theorem bulk_len {H : Type} (l : List (DataW H)) : l.length ≤ Rows.uptoBulkAll l := by
  induction l with
  | nil => simp [Rows.uptoBulkAll]
  | cons x r ih => have := bulk_one x; simp only [Rows.uptoBulkAll, List.length_cons]; omega

section
variable {H : Type} {enc : TypeId × Value → H} {w : World} {held : Bool}
/-- an address that has a cell -/
theorem addr_plain {a : Addr} {v : Value} (h : w.cell? a = some v) : ∃ b off, a = ⟨b, off, none⟩ := by
  obtain ⟨b, off, spot⟩ := a
  have hspot : spot = none := by simpa using World.cell?_spot h
  subst hspot
  exact ⟨b, off, rfl⟩
theorem add_plain (b off j : Nat) : (⟨b, off, none⟩ : Addr).add j = ⟨b, off + j, none⟩ := by unfold Addr.add; split <;> simp_all
theorem add_zero' (a : Addr) : a.add 0 = a := by simp [Addr.add]

theorem open_K {fuel : Nat} {c : Value} {y : DataW H × List MemPlace} (h : DataW.trod enc Tryz.prog w 0 (fun _ => true) held fuel 24 [c] = some y) (hb : Rows.uptoBulk y.1 ≤ 1048576) :
    ∃ k, RdK (fun _ => True) w c k := by
  rcases DataW.trod_slice Tryz.underlying24 h with ⟨hc, _⟩ | ⟨a, len, cap, elems, rest, n, _, hc, rfl, _, hl, hm, hlen, hel, _⟩
  · simp at hc
    subst hc
    exact ⟨[], RdK.nil _ _ _ _ (by omega)⟩
  · simp at hc
    subst hc
    unfold maxLen at hm
    simp only [Rows.uptoBulk] at hb
    have hlb := bulk_len (elems.map (·.1))
    rw [List.length_map] at hlb
    have key : ∀ i, i < len → ∃ (s : List UInt8), w.cell? (a.add i) = some (.string ⟨s.toArray⟩) ∧ s.length ≤ 16777216 := by
      intro i hi
      have h1 := hel i hi
      rw [List.getElem?_eq_getElem (by omega), show Tryz.prog.cellsOf 9 = 1 by kernel_rfl] at h1
      obtain ⟨cs', hcs, ht⟩ := Option.bind_eq_some_iff.1 h1
      obtain ⟨_, hcl, hat⟩ := World.cells?_some hcs
      obtain ⟨s, hs, hd, hsz⟩ := DataW.trod_string Tryz.underlying9 ht
      subst hs
      have h2 := hat 0 (by omega)
      rw [add_zero', Nat.mul_one] at h2
      have h4 := bulk_part (H := H) (d := elems[i].1) (l := elems.map (·.1)) (List.mem_map.2 ⟨elems[i], List.getElem_mem _, rfl⟩)
      rw [hd] at h4
      simp only [Rows.uptoBulk] at h4
      exact ⟨s.data.toList, h2, by omega⟩
    by_cases h0 : len = 0
    · subst h0
      exact ⟨[], RdK.nil _ _ _ _ (by omega)⟩
    obtain ⟨s0, k0, _⟩ := key 0 (by omega)
    rw [add_zero'] at k0
    obtain ⟨b, off, rfl⟩ := addr_plain k0
    obtain ⟨S, hS⟩ := Go.Deep.choose_lt key
    refine ⟨(List.range len).map S, ⟨⟨some ⟨b, off, none⟩, cap, by simp, by simpa using hl, by omega, by simp; omega⟩, fun i hi => ?_⟩⟩
    have hi' : i < len := by simpa using hi
    obtain ⟨h3, h4⟩ := hS i hi'
    rw [add_plain] at h3
    exact ⟨b, off + i, ⟨off, len, cap, rfl, by omega, trivial⟩, by simpa using h3, by simpa using h4⟩

set_option maxRecDepth 100000 in
theorem open_V : ∀ (fuel : Nat) (cs : List Value) (x : DataW H × List MemPlace), DataW.trod enc Tryz.prog w 0 (fun _ => true) held fuel 26 cs = some x → Rows.uptoBulk x.1 ≤ 1048576 → ∃ X, RdV (fun _ => True) w (.agg cs.toArray) X ∧ cs.length = 5 := by
  intro fuel
  induction fuel using Nat.strongRecOn with
  | _ fuel ih =>
    intro cs x h hb
    obtain ⟨xs, n, rfl, rfl, hl, hxl, hf⟩ := DataW.trod_struct Tryz.underlying26 h
    rw [show Tryz.prog.cellsOf 26 = 5 by kernel_rfl] at hl
    match cs, hl with
    | [c0, c1, c2, c3, c4], _ =>
    match xs, hxl with
    | [y0, y1, y2, y3, y4], _ =>
    have f0 : DataW.trod enc Tryz.prog w 0 (fun _ => true) held n 3 (([c0, c1, c2, c3, c4].drop 0).take (Tryz.prog.cellsOf 3)) = [y0, y1, y2, y3, y4][0]? := hf 0 _ rfl
    rw [show Tryz.prog.cellsOf 3 = 1 by kernel_rfl] at f0
    change DataW.trod enc Tryz.prog w 0 (fun _ => true) held n 3 [c0] = some y0 at f0
    have f1 : DataW.trod enc Tryz.prog w 0 (fun _ => true) held n 2 (([c0, c1, c2, c3, c4].drop 1).take (Tryz.prog.cellsOf 2)) = [y0, y1, y2, y3, y4][1]? := hf 1 _ rfl
    rw [show Tryz.prog.cellsOf 2 = 1 by kernel_rfl] at f1
    change DataW.trod enc Tryz.prog w 0 (fun _ => true) held n 2 [c1] = some y1 at f1
    have f2 : DataW.trod enc Tryz.prog w 0 (fun _ => true) held n 9 (([c0, c1, c2, c3, c4].drop 2).take (Tryz.prog.cellsOf 9)) = [y0, y1, y2, y3, y4][2]? := hf 2 _ rfl
    rw [show Tryz.prog.cellsOf 9 = 1 by kernel_rfl] at f2
    change DataW.trod enc Tryz.prog w 0 (fun _ => true) held n 9 [c2] = some y2 at f2
    have f3 : DataW.trod enc Tryz.prog w 0 (fun _ => true) held n 23 (([c0, c1, c2, c3, c4].drop 3).take (Tryz.prog.cellsOf 23)) = [y0, y1, y2, y3, y4][3]? := hf 3 _ rfl
    rw [show Tryz.prog.cellsOf 23 = 1 by kernel_rfl] at f3
    change DataW.trod enc Tryz.prog w 0 (fun _ => true) held n 23 [c3] = some y3 at f3
    have f4 : DataW.trod enc Tryz.prog w 0 (fun _ => true) held n 24 (([c0, c1, c2, c3, c4].drop 4).take (Tryz.prog.cellsOf 24)) = [y0, y1, y2, y3, y4][4]? := hf 4 _ rfl
    rw [show Tryz.prog.cellsOf 24 = 1 by kernel_rfl] at f4
    change DataW.trod enc Tryz.prog w 0 (fun _ => true) held n 24 [c4] = some y4 at f4
    obtain ⟨k0, e0, _, w0⟩ := DataW.trod_int Tryz.underlying3 f0
    obtain ⟨k1, e1, _, w1⟩ := DataW.trod_int Tryz.underlying2 f1
    obtain ⟨s2, e2, d2, _⟩ := DataW.trod_string Tryz.underlying9 f2
    simp only [List.cons.injEq, and_true] at e0 e1 e2
    subst e0 e1 e2
    simp only [Lit.wf, Bool.and_eq_true, decide_eq_true_eq] at w0 w1
    simp only [List.map_cons, List.map_nil, Rows.uptoBulk, Rows.uptoBulkAll] at hb
    have hs2 : s2.data.toList.length ≤ 16777216 := by
      have : Rows.uptoBulk y2.1 = s2.data.toList.length + 1 := by rw [d2]; simp [Rows.uptoBulk]
      omega
    have hb2 : Rows.uptoBulk y2.1 = s2.data.toList.length + 1 := by rw [d2]; simp [Rows.uptoBulk]
    obtain ⟨k, hk⟩ := open_K f4 (by omega)
    have hL : ∃ l : List V, SlForm c3 l.length ∧ RdVs (fun _ => True) w c3 0 l := by
      rcases DataW.trod_slice Tryz.underlying23 f3 with ⟨hc, _⟩ | ⟨a, len, cap, elems, rest, n', hn', hc, hy, _, hl, hm, hlen, hel, _⟩
      · simp at hc
        subst hc
        exact ⟨[], ⟨none, 0, rfl, by simp, by omega, by simp⟩, by unfold RdVs; trivial⟩
      · simp at hc
        subst hc
        unfold maxLen at hm
        have hby : Rows.uptoBulk y3.1 ≤ 1048576 := by omega
        rw [hy] at hby
        simp only [Rows.uptoBulk] at hby
        have hlb := bulk_len (elems.map (·.1))
        rw [List.length_map] at hlb
        have key : ∀ i, i < len → ∃ (p : V × Value), (∃ z0 z1 z2 z3 z4, p.2 = .agg #[z0, z1, z2, z3, z4] ∧ ∀ j, j < 5 → w.cell? ((a.add (i * 5)).add j) = [z0, z1, z2, z3, z4][j]?) ∧ RdV (fun _ => True) w p.2 p.1 := by
          intro i hi
          have h1 := hel i hi
          rw [List.getElem?_eq_getElem (by omega), show Tryz.prog.cellsOf 26 = 5 by kernel_rfl] at h1
          obtain ⟨cs', hcs, ht⟩ := Option.bind_eq_some_iff.1 h1
          obtain ⟨_, hcl, hat⟩ := World.cells?_some hcs
          have h4 := bulk_part (H := H) (d := elems[i].1) (l := elems.map (·.1)) (List.mem_map.2 ⟨elems[i], List.getElem_mem _, rfl⟩)
          obtain ⟨X, hX, hl5⟩ := ih n' (by omega) cs' _ ht (by omega)
          obtain ⟨z0, z1, z2, z3, z4, rfl⟩ : ∃ z0 z1 z2 z3 z4, cs' = [z0, z1, z2, z3, z4] := by
            match cs', hl5 with
            | [z0, z1, z2, z3, z4], _ => exact ⟨z0, z1, z2, z3, z4, rfl⟩
          exact ⟨(X, .agg #[z0, z1, z2, z3, z4]), ⟨z0, z1, z2, z3, z4, rfl, hat⟩, hX⟩
        by_cases h0 : len = 0
        · subst h0
          exact ⟨[], ⟨_, cap, rfl, by simp, by omega, by simp⟩, by unfold RdVs; trivial⟩
        obtain ⟨p0, ⟨z0, z1, z2, z3, z4, _, hz⟩, _⟩ := key 0 (by omega)
        have hz0 := hz 0 (by omega)
        rw [Nat.zero_mul, add_zero', add_zero'] at hz0
        obtain ⟨b, off, rfl⟩ := addr_plain hz0
        haveI : Inhabited (V × Value) := ⟨p0⟩
        obtain ⟨S, hS⟩ := Go.Deep.choose_lt key
        refine ⟨(List.range len).map fun i => (S i).1, ⟨some ⟨b, off, none⟩, cap, by simp, by simpa using hl, by omega, by simp; omega⟩, RdVs.mk fun i hi => ?_⟩
        have hi' : i < len := by simpa using hi
        obtain ⟨⟨z0, z1, z2, z3, z4, e, hz⟩, hX⟩ := hS i hi'
        have g0 := hz 0 (by omega)
        have g1 := hz 1 (by omega)
        have g2 := hz 2 (by omega)
        have g3 := hz 3 (by omega)
        have g4 := hz 4 (by omega)
        simp only [add_plain, Nat.add_zero, List.getElem?_cons_zero, List.getElem?_cons_succ] at g0 g1 g2 g3 g4
        refine ⟨b, off + (0 + i) * 5, (S i).2, ⟨off, len, cap, rfl, rfl, trivial⟩, ⟨z0, z1, z2, z3, z4, e, ?_, ?_, ?_, ?_, ?_⟩, by simpa using hX⟩ <;> rw [Nat.zero_add] <;> assumption
    obtain ⟨l, hl1, hl2⟩ := hL
    refine ⟨.mk k0 k1 s2.data.toList l k, RdV.close ⟨w0.1, w0.2⟩ ⟨w1.1, w1.2⟩ hs2 hl1 hl2 hk, rfl⟩
end
end Go.Proofs.YtlnhhffhmeekoaaGreatDoor
namespace Go.Proofs.YtlnhhffhmeekoaaGreatDoor
open Go.ChangeShapes Go.WideShapes Go.ChangeAt Go.RowKit

section
variable {H : Type} {enc : TypeId × Value → H} {w : World} {held : Bool}
theorem open_Ns_of {fuel : Nat} {c : Value} {y : DataW H × List MemPlace} (h : DataW.trod enc Tryz.prog w 0 (fun _ => true) held fuel 27 [c] = some y) (hb : Rows.uptoBulk y.1 ≤ 1048576)
    (ih : ∀ n, n < fuel → ∀ (cs : List Value) (x : DataW H × List MemPlace), DataW.trod enc Tryz.prog w 0 (fun _ => true) held n 29 cs = some x → Rows.uptoBulk x.1 ≤ 1048576 → ∃ X, RdN (fun _ => True) w (.agg cs.toArray) X ∧ cs.length = 10) :
    ∃ l : List N, SlForm c l.length ∧ RdNs (fun _ => True) w c 0 l := by
  rcases DataW.trod_slice Tryz.underlying27 h with ⟨hc, _⟩ | ⟨a, len, cap, elems, rest, n', hn', hc, hy, _, hl, hm, hlen, hel, _⟩
  · simp at hc
    subst hc
    exact ⟨[], ⟨none, 0, rfl, by simp, by omega, by simp⟩, by unfold RdNs; trivial⟩
  · simp at hc
    subst hc
    unfold maxLen at hm
    rw [hy] at hb
    simp only [Rows.uptoBulk] at hb
    have hlb := bulk_len (elems.map (·.1))
    rw [List.length_map] at hlb
    have key : ∀ i, i < len → ∃ (p : N × List Value), p.2.length = 10 ∧ (∀ j, j < 10 → w.cell? ((a.add (i * 10)).add j) = p.2[j]?) ∧ RdN (fun _ => True) w (.agg p.2.toArray) p.1 := by
      intro i hi
      have h1 := hel i hi
      rw [List.getElem?_eq_getElem (by omega), show Tryz.prog.cellsOf 29 = 10 by kernel_rfl] at h1
      obtain ⟨cs', hcs, ht⟩ := Option.bind_eq_some_iff.1 h1
      obtain ⟨_, hcl, hat⟩ := World.cells?_some hcs
      have h4 := bulk_part (H := H) (d := elems[i].1) (l := elems.map (·.1)) (List.mem_map.2 ⟨elems[i], List.getElem_mem _, rfl⟩)
      obtain ⟨X, hX, hl10⟩ := ih n' (by omega) cs' _ ht (by omega)
      exact ⟨(X, cs'), hl10, hat, hX⟩
    by_cases h0 : len = 0
    · subst h0
      exact ⟨[], ⟨_, cap, rfl, by simp, by omega, by simp⟩, by unfold RdNs; trivial⟩
    obtain ⟨p0, hp, hz, _⟩ := key 0 (by omega)
    have hz0 := hz 0 (by omega)
    rw [Nat.zero_mul, add_zero', add_zero', List.getElem?_eq_getElem (by omega)] at hz0
    obtain ⟨b, off, rfl⟩ := addr_plain hz0
    haveI : Inhabited (N × List Value) := ⟨p0⟩
    obtain ⟨S, hS⟩ := Go.Deep.choose_lt key
    refine ⟨(List.range len).map fun i => (S i).1, ⟨some ⟨b, off, none⟩, cap, by simp, by simpa using hl, by omega, by simp; omega⟩, RdNs.mk fun i hi => ?_⟩
    have hi' : i < len := by simpa using hi
    obtain ⟨hl10, hz, hX⟩ := hS i hi'
    refine ⟨b, off + (0 + i) * 10, (S i).2, ⟨off, len, cap, rfl, rfl, trivial⟩, hl10, fun j u hj => ?_, by simpa using hX⟩
    have hj' : j < 10 := by
      have := (List.getElem?_eq_some_iff.1 hj).1
      omega
    have := hz j hj'
    rw [add_plain, add_plain, hj] at this
    rw [Nat.zero_add]
    exact this
set_option maxRecDepth 100000 in
theorem open_N : ∀ (fuel : Nat) (cs : List Value) (x : DataW H × List MemPlace), DataW.trod enc Tryz.prog w 0 (fun _ => true) held fuel 29 cs = some x → Rows.uptoBulk x.1 ≤ 1048576 → ∃ X, RdN (fun _ => True) w (.agg cs.toArray) X ∧ cs.length = 10 := by
  intro fuel
  induction fuel using Nat.strongRecOn with
  | _ fuel ih =>
    intro cs x h hb
    obtain ⟨xs, n, rfl, rfl, hl, hxl, hf⟩ := DataW.trod_struct Tryz.underlying29 h
    rw [show Tryz.prog.cellsOf 29 = 10 by kernel_rfl] at hl
    match cs, hl with
    | [c0, c1, c2, c3, c4, c5, c6, c7, c8, c9], _ =>
    match xs, hxl with
    | [y0, y1, y2, y3, y4, y5], _ =>
    have f0 : DataW.trod enc Tryz.prog w 0 (fun _ => true) held n 3 (([c0, c1, c2, c3, c4, c5, c6, c7, c8, c9].drop 0).take (Tryz.prog.cellsOf 3)) = [y0, y1, y2, y3, y4, y5][0]? := hf 0 _ rfl
    rw [show Tryz.prog.cellsOf 3 = 1 by kernel_rfl] at f0
    change DataW.trod enc Tryz.prog w 0 (fun _ => true) held n 3 [c0] = some y0 at f0
    have f1 : DataW.trod enc Tryz.prog w 0 (fun _ => true) held n 9 (([c0, c1, c2, c3, c4, c5, c6, c7, c8, c9].drop 1).take (Tryz.prog.cellsOf 9)) = [y0, y1, y2, y3, y4, y5][1]? := hf 1 _ rfl
    rw [show Tryz.prog.cellsOf 9 = 1 by kernel_rfl] at f1
    change DataW.trod enc Tryz.prog w 0 (fun _ => true) held n 9 [c1] = some y1 at f1
    have f2 : DataW.trod enc Tryz.prog w 0 (fun _ => true) held n 26 (([c0, c1, c2, c3, c4, c5, c6, c7, c8, c9].drop 2).take (Tryz.prog.cellsOf 26)) = [y0, y1, y2, y3, y4, y5][2]? := hf 2 _ rfl
    rw [show Tryz.prog.cellsOf 26 = 5 by kernel_rfl] at f2
    change DataW.trod enc Tryz.prog w 0 (fun _ => true) held n 26 [c2, c3, c4, c5, c6] = some y2 at f2
    have f3 : DataW.trod enc Tryz.prog w 0 (fun _ => true) held n 4 (([c0, c1, c2, c3, c4, c5, c6, c7, c8, c9].drop 7).take (Tryz.prog.cellsOf 4)) = [y0, y1, y2, y3, y4, y5][3]? := hf 3 _ rfl
    rw [show Tryz.prog.cellsOf 4 = 1 by kernel_rfl] at f3
    change DataW.trod enc Tryz.prog w 0 (fun _ => true) held n 4 [c7] = some y3 at f3
    have f4 : DataW.trod enc Tryz.prog w 0 (fun _ => true) held n 27 (([c0, c1, c2, c3, c4, c5, c6, c7, c8, c9].drop 8).take (Tryz.prog.cellsOf 27)) = [y0, y1, y2, y3, y4, y5][4]? := hf 4 _ rfl
    rw [show Tryz.prog.cellsOf 27 = 1 by kernel_rfl] at f4
    change DataW.trod enc Tryz.prog w 0 (fun _ => true) held n 27 [c8] = some y4 at f4
    have f5 : DataW.trod enc Tryz.prog w 0 (fun _ => true) held n 3 (([c0, c1, c2, c3, c4, c5, c6, c7, c8, c9].drop 9).take (Tryz.prog.cellsOf 3)) = [y0, y1, y2, y3, y4, y5][5]? := hf 5 _ rfl
    rw [show Tryz.prog.cellsOf 3 = 1 by kernel_rfl] at f5
    change DataW.trod enc Tryz.prog w 0 (fun _ => true) held n 3 [c9] = some y5 at f5
    obtain ⟨k0, e0, _, w0⟩ := DataW.trod_int Tryz.underlying3 f0
    obtain ⟨s1, e1, d1, _⟩ := DataW.trod_string Tryz.underlying9 f1
    obtain ⟨b3, e3, _⟩ := DataW.trod_bool Tryz.underlying4 f3
    obtain ⟨k5, e5, _, w5⟩ := DataW.trod_int Tryz.underlying3 f5
    simp only [List.cons.injEq, and_true] at e0 e1 e3 e5
    subst e0 e1 e3 e5
    simp only [Lit.wf, Bool.and_eq_true, decide_eq_true_eq] at w0 w5
    simp only [List.map_cons, List.map_nil, Rows.uptoBulk, Rows.uptoBulkAll] at hb
    have hs1 : s1.data.toList.length ≤ 16777216 := by
      have : Rows.uptoBulk y1.1 = s1.data.toList.length + 1 := by rw [d1]; simp [Rows.uptoBulk]
      omega
    obtain ⟨X, hX, _⟩ := open_V n _ _ f2 (by omega)
    obtain ⟨l, hl1, hl2⟩ := open_Ns_of f4 (by omega) (fun n' hn' => ih n' (by omega))
    refine ⟨.mk k0 s1.data.toList X b3 l k5, ?_, rfl⟩
    unfold RdN
    exact ⟨⟨w0.1, w0.2⟩, ⟨w5.1, w5.2⟩, hs1, c2, c3, c4, c5, c6, c8, rfl, hX, hl1, hl2⟩
end
end Go.Proofs.YtlnhhffhmeekoaaGreatDoor
namespace Go.Proofs.YtlnhhffhmeekoaaGreatDoor
open Go.RowKit

theorem infoStr : (Tryz.prog.info? 9).map (fun i => (i.zero, i.size, i.bytes)) = some (some (.string ⟨#[]⟩), 1, 16) := by kernel_rfl
theorem infoVal : (Tryz.prog.info? 26).map (fun i => (i.zero, i.size, i.bytes)) = some (some (.agg #[.int .i64 0, .int .i64 0, .string ⟨#[]⟩, .slice none 0 0, .slice none 0 0]), 5, 80) := by kernel_rfl
/-- the cells of keys -/
def kvals (k : List (List UInt8)) : List Value := k.map fun s => .string ⟨s.toArray⟩
theorem kvals_len (k : List (List UInt8)) : (kvals k).length = k.length * 1 := by simp [kvals]
theorem kvals_one (k : List (List UInt8)) : ∀ u ∈ kvals k, u.oneCell' = true := by
  intro u hu
  simp only [kvals, List.mem_map] at hu
  obtain ⟨_, _, rfl⟩ := hu
  rfl
/-- a row of keys that a call owns reads as them -/
theorem RdK.own {ok : Nat → Prop} {w : World} {v : Value} {k : List (List UInt8)} (h : OwnR 9 1 ok w v k.length (kvals k)) (hl : k.length ≤ 16777216) (hs : ∀ i (hi : i < k.length), (k[i]).length ≤ 16777216) : RdK ok w v k := by
  obtain ⟨A, c, rfl, hc⟩ := h.slice
  have hcm : c ≤ 9223372036854775807 := by
    rcases h.row.2 with ⟨he, _⟩ | ⟨g, cap, cur, he, _, _, _, hm, _⟩
    · injection he with _ _ h3; omega
    · injection he with _ _ h3; unfold maxLen at hm; omega
  refine ⟨⟨A, c, rfl, hc, hcm, hl⟩, fun i hi => ?_⟩
  obtain ⟨g, cap, hv, hk, _, hcell⟩ := h.form (Nat.lt_of_le_of_lt (Nat.zero_le _) hi)
  injection hv with h1 h2 h3
  subst h1
  refine ⟨g, i, ⟨0, _, _, rfl, by omega, hk⟩, hcell i _ ?_, hs i hi⟩
  simp [kvals, List.getElem?_eq_getElem hi]
/-- a row of keys: its cells -/
theorem RdK.news {ok : Nat → Prop} {w : World} {A : Option Addr} {n c : Nat} {k : List (List UInt8)} (h : RdK ok w (.slice A n c) k) : 0 < k.length → ∃ g off, A = some ⟨g, off, none⟩ ∧ ∀ j u, (kvals k)[j]? = some u → w.cell? ⟨g, off + j, none⟩ = some u := by
  intro h0
  obtain ⟨g, off, hA, _, _⟩ := h.elem 0 h0
  refine ⟨g, off, hA, fun j u hj => ?_⟩
  simp only [kvals, List.getElem?_map, Option.map_eq_some_iff] at hj
  obtain ⟨s, hs, rfl⟩ := hj
  obtain ⟨hlt, hs'⟩ := List.getElem?_eq_some_iff.1 hs
  obtain ⟨g', off', hA', _, hc, _⟩ := h.elem j hlt
  rw [hA] at hA'
  injection hA' with hA'
  injection hA' with h1 h2
  subst h1 h2
  rw [hc, hs']
theorem sc_other {w : World} {g o g' p : Nat} {v : Value} (h : g ≠ g' ∨ o ≠ p) : (w.setCell ⟨g, o, none⟩ v).cell? ⟨g', p, none⟩ = w.cell? ⟨g', p, none⟩ :=
  World.cell?_setCell_other (h := fun e => by injection e with h1 h2; rcases h with h | h <;> omega) ..
theorem sc_same {w : World} {a : Addr} {u v : Value} (h : w.cell? a = some u) : (w.setCell a v).cell? a = some v := World.cell?_setCell_same (h := h) ..
theorem frozen_below {w1 w2 : World} {g : Nat} (hb : Below w1.heap.size w1 w2) (hg : g < w1.heap.size) (hf : ∀ i, w1.frozen? ⟨g, i, none⟩ = false) : ∀ i, w2.frozen? ⟨g, i, none⟩ = false :=
  fun i => (World.frozen?_of_block (a := ⟨g, i, none⟩) (hb.block _ hg)).trans (hf i)
theorem run_append_zero {P : Program} {w : World} (base : Nat) (t ty e : TypeId) (i : TypeInfo) (size : Nat) (ht : P.underlying t = some (.slice e)) (hi : P.info? e = some i)
    (v : Value) (n : Nat) (xs : List Value) (hown : w.ownsRow base e size v n xs) (A : Option Addr) (c : Nat) :
    (Builtin.append_ #[t, t] ty #[v, .slice A 0 c]).run P w = .ok v w := by
  rcases hown.2 with ⟨rfl, rfl⟩ | ⟨g, cap, cur, rfl, _, _, hnc, _⟩
  · exact run_append_none t ty e i ht hi A c
  · cases A <;> simp [Builtin.append_, run_underlying ht, sizeOf, typeInfo, hi, Builtin.lenOf, Builtin.firstCells, hnc, storeCells, go_sem]
/-- append(v, l...): v is owned -/
theorem run_append_gen {P : Program} {w : World} (t ty : TypeId) {e : TypeId} {z : Value} {size bytes : Nat} (hinfo : (P.info? e).map (fun i => (i.zero, i.size, i.bytes)) = some (some z, size, bytes)) (ht : P.underlying t = some (.slice e))
    (hzs : z.cells.size = size) (hsz : 0 < size) (hb0 : 0 < bytes) {ok : Nat → Prop} {v : Value} {n : Nat} {cs : List Value} (HO : OwnR e size ok w v n cs) (A : Option Addr) (m c : Nat) (news : List Value) (hl : news.length = m * size)
    (hA : 0 < m → ∃ g off, A = some ⟨g, off, none⟩ ∧ ∀ j u, news[j]? = some u → w.cell? ⟨g, off + j, none⟩ = some u) (h1 : ∀ u ∈ news, u.oneCell' = true) (hbytes : (n + m) * bytes ≤ 140737488355328) (hnew : ∀ k, w.heap.size ≤ k → ok k) :
    ∃ v' w', (Builtin.append_ #[t, t] ty #[v, .slice A m c]).run P w = .ok v' w' ∧ OwnR e size ok w' v' (n + m) (cs ++ news) ∧ w.grownBy w' v.ownBlock := by
  obtain ⟨i, hi, hz0, hz1, hz2⟩ := info_parts hinfo
  by_cases hm : m = 0
  · subst hm
    have hnil : news = [] := List.length_eq_zero_iff.1 (by simpa using hl)
    subst hnil
    rw [List.append_nil]
    exact ⟨v, w, run_append_zero 0 t ty e i size ht hi v n cs HO.row A c, HO, ⟨rfl, rfl, rfl, Nat.le_refl _, fun _ _ _ => rfl⟩⟩
  · obtain ⟨g, off, rfl, hc⟩ := hA (Nat.pos_of_ne_zero hm)
    have hnm : n + m ≤ 140737488355328 := Nat.le_trans (Nat.le_mul_of_pos_right _ hb0) hbytes
    obtain ⟨v', w', hr, hown, hg, _, hat⟩ := run_append_own_at (P := P) w 0 t ty e i z size bytes ht hi hz0 hz1 hz2 (by rw [← hzs]) hsz v n cs HO.row ⟨g, off, none⟩ m c news hl
      (fun j u hj => by have := hc j u hj; unfold Addr.add; split <;> simp_all) h1 (by unfold maxLen; omega) hbytes (Nat.zero_le _)
    refine ⟨v', w', hr, ⟨hown, fun k hk => ?_⟩, hg⟩
    rcases hat with hat | hat
    · exact HO.blk k (hat ▸ hk)
    · rw [hat] at hk
      injection hk with hk
      exact hnew k (Nat.le_of_eq hk)
/-- at a step of a region that draws -/
theorem step_append_gen {P : Program} {w : World} {ops : Array Oper} {o : Oper} {a : Act} {K : Act → World → Prop} {Q : Exit → Act → World → Prop} {E : Prop} (hgd : o.guard = none) (s x : Operand) (t : TypeId)
    (ho : o.op = .call { callee := .builtin .append, args := #[s, x], argTypes := #[t, t] }) {e : TypeId} {z : Value} {size bytes : Nat} (hinfo : (P.info? e).map (fun i => (i.zero, i.size, i.bytes)) = some (some z, size, bytes)) (ht : P.underlying t = some (.slice e))
    (hzs : z.cells.size = size) (hsz : 0 < size) (hb0 : 0 < bytes) {ok : Nat → Prop} {v : Value} {n : Nat} {cs : List Value} (hs : a.eval s = v) (HO : OwnR e size ok w v n cs) (A : Option Addr) (m c : Nat) (news : List Value) (hx : a.eval x = .slice A m c) (hl : news.length = m * size)
    (hA : 0 < m → ∃ g off, A = some ⟨g, off, none⟩ ∧ ∀ j u, news[j]? = some u → w.cell? ⟨g, off + j, none⟩ = some u) (h1 : ∀ u ∈ news, u.oneCell' = true) (hbytes : (n + m) * bytes ≤ 140737488355328) (hnew : ∀ k, w.heap.size ≤ k → ok k)
    (h : ∀ v' w', OwnR e size ok w' v' (n + m) (cs ++ news) → w.grownBy w' v.ownBlock → K (a.put o.dst v') w') :
    if Region.wanted o (yielded ops a.tmps) = true then Oper.wp P o a w K Q else E := by
  have hw : Region.wanted o (yielded ops a.tmps) = true := by simp [Region.wanted, hgd]
  rw [if_pos hw]
  obtain ⟨v', w', hr, h2, h3⟩ := run_append_gen (P := P) (w := w) t o.type hinfo ht hzs hsz hb0 HO A m c news hl hA h1 hbytes hnew
  unfold Oper.wp
  simp only [execOp, ho, resolve, invoke, builtin, Sem.run_bind, Sem.run_pure, Result.andThen_ok, List.map_toArray, List.map_cons, List.map_nil, hs, hx, hr]
  exact h v' w' h2 h3
/-- at a plain region's list -/
theorem wpList_append_gen {P : Program} {w : World} {ops : Array Oper} {rest : List Oper} {o : Oper} {a : Act} {Q : Exit → Act → World → Prop} (hgd : o.guard = none) (s x : Operand) (t : TypeId)
    (ho : o.op = .call { callee := .builtin .append, args := #[s, x], argTypes := #[t, t] }) {e : TypeId} {z : Value} {size bytes : Nat} (hinfo : (P.info? e).map (fun i => (i.zero, i.size, i.bytes)) = some (some z, size, bytes)) (ht : P.underlying t = some (.slice e))
    (hzs : z.cells.size = size) (hsz : 0 < size) (hb0 : 0 < bytes) {ok : Nat → Prop} {v : Value} {n : Nat} {cs : List Value} (hs : a.eval s = v) (HO : OwnR e size ok w v n cs) (A : Option Addr) (m c : Nat) (news : List Value) (hx : a.eval x = .slice A m c) (hl : news.length = m * size)
    (hA : 0 < m → ∃ g off, A = some ⟨g, off, none⟩ ∧ ∀ j u, news[j]? = some u → w.cell? ⟨g, off + j, none⟩ = some u) (h1 : ∀ u ∈ news, u.oneCell' = true) (hbytes : (n + m) * bytes ≤ 140737488355328) (hnew : ∀ k, w.heap.size ≤ k → ok k)
    (h : ∀ v' w', OwnR e size ok w' v' (n + m) (cs ++ news) → w.grownBy w' v.ownBlock → wpList P ops Q rest (a.put o.dst v') w') : wpList P ops Q (o :: rest) a w := by
  refine wpList_plain hgd fun K hK => ?_
  obtain ⟨v', w', hr, h2, h3⟩ := run_append_gen (P := P) (w := w) t o.type hinfo ht hzs hsz hb0 HO A m c news hl hA h1 hbytes hnew
  unfold Oper.wp
  simp only [execOp, ho, resolve, invoke, builtin, Sem.run_bind, Sem.run_pure, Result.andThen_ok, List.map_toArray, List.map_cons, List.map_nil, hs, hx, hr]
  exact hK _ _ (h v' w' h2 h3)

/-- cells that read as these values -/
structure Elems (ok : Nat → Prop) (w : World) (news : List Value) (l : List V) : Prop where
  len : news.length = l.length * 5
  at_ : ∀ j (hj : j < l.length), ∃ c0 c1 c2 c3 c4, news[j * 5]? = some c0 ∧ news[j * 5 + 1]? = some c1 ∧ news[j * 5 + 2]? = some c2 ∧ news[j * 5 + 3]? = some c3 ∧ news[j * 5 + 4]? = some c4 ∧ RdV ok w (.agg #[c0, c1, c2, c3, c4]) l[j]
  one : ∀ u ∈ news, u.oneCell' = true
theorem Elems.nil (ok : Nat → Prop) (w : World) : Elems ok w [] [] := ⟨rfl, fun j hj => absurd hj (by simp), by simp⟩
theorem RdV.ones {ok : Nat → Prop} {w : World} {c0 c1 c2 c3 c4 : Value} {X : V} (h : RdV ok w (.agg #[c0, c1, c2, c3, c4]) X) : ∀ u ∈ [c0, c1, c2, c3, c4], u.oneCell' = true := by
  obtain ⟨A, c, B, d, he, _⟩ := h.form
  injection he with he
  simp only [Array.mk.injEq, List.cons.injEq, and_true] at he
  obtain ⟨rfl, rfl, rfl, rfl, rfl⟩ := he
  intro u hu
  simp only [List.mem_cons, List.not_mem_nil, or_false] at hu
  rcases hu with rfl | rfl | rfl | rfl | rfl <;> rfl
theorem Elems.cons {ok : Nat → Prop} {w : World} {news : List Value} {l : List V} {c0 c1 c2 c3 c4 : Value} {X : V} (h0 : RdV ok w (.agg #[c0, c1, c2, c3, c4]) X) (h : Elems ok w news l) : Elems ok w (c0 :: c1 :: c2 :: c3 :: c4 :: news) (X :: l) := by
  refine ⟨by have := h.len; simp only [List.length_cons]; omega, fun j hj => ?_, fun u hu => ?_⟩
  · cases j with
    | zero => exact ⟨c0, c1, c2, c3, c4, rfl, rfl, rfl, rfl, rfl, h0⟩
    | succ j =>
      obtain ⟨d0, d1, d2, d3, d4, e0, e1, e2, e3, e4, hr⟩ := h.at_ j (by simpa using hj)
      have hs : (j + 1) * 5 = j * 5 + 5 := by omega
      refine ⟨d0, d1, d2, d3, d4, ?_, ?_, ?_, ?_, ?_, hr⟩ <;> simp only [hs] <;> assumption
  · have := h0.ones u
    simp only [List.mem_cons] at hu
    simp only [List.mem_cons, List.not_mem_nil, or_false] at this
    rcases hu with h1 | h1 | h1 | h1 | h1 | h1
    · exact this (Or.inl h1)
    · exact this (Or.inr (Or.inl h1))
    · exact this (Or.inr (Or.inr (Or.inl h1)))
    · exact this (Or.inr (Or.inr (Or.inr (Or.inl h1))))
    · exact this (Or.inr (Or.inr (Or.inr (Or.inr h1))))
    · exact h.one u h1
theorem Elems.tail {ok : Nat → Prop} {w : World} {news : List Value} {X : V} {l : List V} (h : Elems ok w news (X :: l)) : ∃ c0 c1 c2 c3 c4 r, news = c0 :: c1 :: c2 :: c3 :: c4 :: r ∧ RdV ok w (.agg #[c0, c1, c2, c3, c4]) X ∧ Elems ok w r l := by
  have hl := h.len
  match news, h with
  | [], h => simp at hl
  | [_], h => simp at hl; omega
  | [_, _], h => simp at hl; omega
  | [_, _, _], h => simp at hl; omega
  | [_, _, _, _], h => simp at hl; omega
  | c0 :: c1 :: c2 :: c3 :: c4 :: r, h =>
    obtain ⟨d0, d1, d2, d3, d4, e0, e1, e2, e3, e4, hr⟩ := h.at_ 0 (by simp)
    simp at e0 e1 e2 e3 e4
    subst e0 e1 e2 e3 e4
    refine ⟨c0, c1, c2, c3, c4, r, rfl, hr, ⟨by simp at hl; omega, fun j hj => ?_, fun u hu => h.one u (by simp [hu])⟩⟩
    obtain ⟨d0, d1, d2, d3, d4, e0, e1, e2, e3, e4, hr⟩ := h.at_ (j + 1) (by simpa using hj)
    have hs : (j + 1) * 5 = j * 5 + 5 := by omega
    simp only [hs] at e0 e1 e2 e3 e4
    exact ⟨d0, d1, d2, d3, d4, by simpa using e0, by simpa using e1, by simpa using e2, by simpa using e3, by simpa using e4, by simpa using hr⟩
theorem Elems.append {ok : Nat → Prop} {w : World} : ∀ {l k : List V} {a b : List Value}, Elems ok w a l → Elems ok w b k → Elems ok w (a ++ b) (l ++ k)
  | [], k, a, b, ha, hb => by
    have : a = [] := List.length_eq_zero_iff.1 (by simpa using ha.len)
    subst this
    exact hb
  | X :: l, k, a, b, ha, hb => by
    obtain ⟨c0, c1, c2, c3, c4, r, rfl, hr, ht⟩ := ha.tail
    exact (ht.append hb).cons hr
theorem Elems.below {ok : Nat → Prop} {w w1 : World} {a : List Value} {l : List V} (h : Elems ok w a l) (hb : Below w.heap.size w w1) : Elems ok w1 a l :=
  ⟨h.len, fun j hj => by obtain ⟨d0, d1, d2, d3, d4, e0, e1, e2, e3, e4, hr⟩ := h.at_ j hj; exact ⟨d0, d1, d2, d3, d4, e0, e1, e2, e3, e4, hr.below hb⟩, h.one⟩
theorem Elems.fr {ok ok' : Nat → Prop} {w w1 : World} {a : List Value} {l : List V} (h : Elems ok w a l) (hf : Fr ok' w w1) (hn : ∀ b, b < w.heap.size → ok b → ¬ ok' b) : Elems ok w1 a l :=
  ⟨h.len, fun j hj => by obtain ⟨d0, d1, d2, d3, d4, e0, e1, e2, e3, e4, hr⟩ := h.at_ j hj; exact ⟨d0, d1, d2, d3, d4, e0, e1, e2, e3, e4, hr.fr hf hn⟩, h.one⟩
theorem Elems.imp {ok ok' : Nat → Prop} {w : World} {a : List Value} {l : List V} (h : Elems ok w a l) (hk : ∀ b, ok b → ok' b) : Elems ok' w a l :=
  ⟨h.len, fun j hj => by obtain ⟨d0, d1, d2, d3, d4, e0, e1, e2, e3, e4, hr⟩ := h.at_ j hj; exact ⟨d0, d1, d2, d3, d4, e0, e1, e2, e3, e4, hr.imp hk⟩, h.one⟩
/-- a row of values: its cells -/
theorem RdVs.elems {ok : Nat → Prop} {w : World} {A : Option Addr} {n c : Nat} : ∀ {l : List V} {i : Nat}, RdVs ok w (.slice A n c) i l → ∃ news, Elems ok w news l ∧ (0 < l.length → ∃ g off, A = some ⟨g, off, none⟩ ∧ ∀ j u, news[j]? = some u → w.cell? ⟨g, off + i * 5 + j, none⟩ = some u)
  | [], i, h => ⟨[], Elems.nil _ _, fun h0 => absurd h0 (by simp)⟩
  | X :: l, i, h => by
    unfold RdVs at h
    obtain ⟨⟨g, o, v, ⟨off, nn, cc, hv, ho, hg⟩, ⟨c0, c1, c2, c3, c4, rfl, e0, e1, e2, e3, e4⟩, hr⟩, ht⟩ := h
    injection hv with h1 _ _
    subst h1
    subst ho
    obtain ⟨news, hE, hc⟩ := RdVs.elems ht
    refine ⟨c0 :: c1 :: c2 :: c3 :: c4 :: news, hE.cons hr, fun _ => ⟨g, off, rfl, fun j u hj => ?_⟩⟩
    match j, hj with
    | 0, hj => simp at hj; subst hj; exact e0
    | 1, hj => simp at hj; subst hj; exact e1
    | 2, hj => simp at hj; subst hj; exact e2
    | 3, hj => simp at hj; subst hj; exact e3
    | 4, hj => simp at hj; subst hj; exact e4
    | j + 5, hj =>
      have hj' : news[j]? = some u := by simpa using hj
      have hpos : 0 < l.length := by
        have := (List.getElem?_eq_some_iff.1 hj').1
        have := hE.len
        omega
      obtain ⟨g', off', hA, hcell⟩ := hc hpos
      injection hA with hA
      injection hA with h2 h3
      subst h2 h3
      have := hcell j u hj'
      rwa [show off + (i + 1) * 5 + j = off + i * 5 + (j + 5) by omega] at this
/-- a row that is owned reads as the values -/
theorem RdVs.own {e : TypeId} {ok : Nat → Prop} {w : World} {v : Value} {news : List Value} {l : List V} (h : OwnR e 5 ok w v l.length news) (hE : Elems ok w news l) : RdVs ok w v 0 l := by
  refine RdVs.mk fun j hj => ?_
  obtain ⟨g, cap, rfl, hk, _, hcell⟩ := h.form (Nat.lt_of_le_of_lt (Nat.zero_le _) hj)
  obtain ⟨c0, c1, c2, c3, c4, e0, e1, e2, e3, e4, hr⟩ := hE.at_ j hj
  exact ⟨g, j * 5, _, ⟨0, _, _, rfl, by omega, hk⟩, ⟨c0, c1, c2, c3, c4, rfl, hcell _ _ e0, hcell _ _ e1, hcell _ _ e2, hcell _ _ e3, hcell _ _ e4⟩, hr⟩
theorem OwnR.slForm {e sz : Nat} {ok : Nat → Prop} {w : World} {v : Value} {n : Nat} {cs : List Value} (h : OwnR e sz ok w v n cs) (hn : n ≤ 16777216) : SlForm v n := by
  rcases h.row.2 with ⟨rfl, h0⟩ | ⟨g, cap, cur, rfl, _, _, hl, hm, _⟩
  · subst h0; exact ⟨none, 0, rfl, by simp, by omega, by simp⟩
  · exact ⟨_, cap, rfl, hl, by unfold maxLen at hm; omega, hn⟩

theorem infoNode : (Tryz.prog.info? 29).map (fun i => (i.zero, i.size, i.bytes)) = some (some (.agg #[.int .i64 0, .string ⟨#[]⟩, .int .i64 0, .int .i64 0, .string ⟨#[]⟩, .slice none 0 0, .slice none 0 0, .bool false, .slice none 0 0, .int .i64 0]), 10, 144) := by kernel_rfl
/-- cells that read as these nodes -/
structure NElems (ok : Nat → Prop) (w : World) (news : List Value) (l : List N) : Prop where
  len : news.length = l.length * 10
  at_ : ∀ j (hj : j < l.length), ∃ cs : List Value, cs.length = 10 ∧ (∀ i u, cs[i]? = some u → news[j * 10 + i]? = some u) ∧ RdN ok w (.agg cs.toArray) l[j]
  one : ∀ u ∈ news, u.oneCell' = true
theorem NElems.nil (ok : Nat → Prop) (w : World) : NElems ok w [] [] := ⟨rfl, fun j hj => absurd hj (by simp), by simp⟩
theorem RdN.ones {ok : Nat → Prop} {w : World} {cs : List Value} {X : N} (h : RdN ok w (.agg cs.toArray) X) : ∀ u ∈ cs, u.oneCell' = true := by
  obtain ⟨A, c, B, d, K, e, he, _⟩ := h.form
  injection he with he
  have := congrArg Array.toList he
  simp only at this
  subst this
  intro u hu
  simp only [List.mem_cons, List.not_mem_nil, or_false] at hu
  rcases hu with rfl | rfl | rfl | rfl | rfl | rfl | rfl | rfl | rfl | rfl <;> rfl
theorem NElems.snoc {ok : Nat → Prop} {w : World} {news : List Value} {l : List N} {cs : List Value} {X : N} (h : NElems ok w news l) (hc : cs.length = 10) (h0 : RdN ok w (.agg cs.toArray) X) : NElems ok w (news ++ cs) (l ++ [X]) := by
  have hl := h.len
  refine ⟨by simp only [List.length_append, List.length_cons, List.length_nil]; omega, fun j hj => ?_, fun u hu => ?_⟩
  · by_cases hjl : j < l.length
    · obtain ⟨ds, e0, e1, hr⟩ := h.at_ j hjl
      refine ⟨ds, e0, fun i u hi => ?_, by rw [List.getElem_append_left hjl]; exact hr⟩
      have := e1 i u hi
      rw [List.getElem?_append_left (List.getElem?_eq_some_iff.1 this).1]
      exact this
    · have hje : j = l.length := by simp only [List.length_append, List.length_cons, List.length_nil] at hj; omega
      subst hje
      refine ⟨cs, hc, fun i u hi => ?_, by simpa using h0⟩
      rw [List.getElem?_append_right (by omega), show l.length * 10 + i - news.length = i by omega]
      exact hi
  · rw [List.mem_append] at hu
    rcases hu with hu | hu
    · exact h.one u hu
    · exact h0.ones u hu
theorem NElems.cons {ok : Nat → Prop} {w : World} {news : List Value} {l : List N} {cs : List Value} {X : N} (hc : cs.length = 10) (h0 : RdN ok w (.agg cs.toArray) X) (h : NElems ok w news l) : NElems ok w (cs ++ news) (X :: l) := by
  have hl := h.len
  refine ⟨by simp only [List.length_append, List.length_cons]; omega, fun j hj => ?_, fun u hu => ?_⟩
  · cases j with
    | zero =>
      refine ⟨cs, hc, fun i u hi => ?_, h0⟩
      rw [Nat.zero_mul, Nat.zero_add, List.getElem?_append_left (List.getElem?_eq_some_iff.1 hi).1]
      exact hi
    | succ j =>
      obtain ⟨ds, e0, e1, hr⟩ := h.at_ j (by simpa using hj)
      refine ⟨ds, e0, fun i u hi => ?_, hr⟩
      rw [List.getElem?_append_right (by omega), show (j + 1) * 10 + i - cs.length = j * 10 + i by omega]
      exact e1 i u hi
  · rw [List.mem_append] at hu
    rcases hu with hu | hu
    · exact h0.ones u hu
    · exact h.one u hu
theorem NElems.fr {ok ok' : Nat → Prop} {w w1 : World} {a : List Value} {l : List N} (h : NElems ok w a l) (hf : Fr ok' w w1) (hn : ∀ b, b < w.heap.size → ok b → ¬ ok' b) : NElems ok w1 a l :=
  ⟨h.len, fun j hj => by obtain ⟨cs, e0, e1, hr⟩ := h.at_ j hj; exact ⟨cs, e0, e1, hr.fr hf hn⟩, h.one⟩
theorem NElems.below {ok : Nat → Prop} {w w1 : World} {a : List Value} {l : List N} (h : NElems ok w a l) (hb : Below w.heap.size w w1) : NElems ok w1 a l :=
  ⟨h.len, fun j hj => by obtain ⟨cs, e0, e1, hr⟩ := h.at_ j hj; exact ⟨cs, e0, e1, hr.below hb⟩, h.one⟩
theorem NElems.imp {ok ok' : Nat → Prop} {w : World} {a : List Value} {l : List N} (h : NElems ok w a l) (hk : ∀ b, ok b → ok' b) : NElems ok' w a l :=
  ⟨h.len, fun j hj => by obtain ⟨cs, e0, e1, hr⟩ := h.at_ j hj; exact ⟨cs, e0, e1, hr.imp hk⟩, h.one⟩
theorem RdNs.own {e : TypeId} {ok : Nat → Prop} {w : World} {v : Value} {news : List Value} {l : List N} (h : OwnR e 10 ok w v l.length news) (hE : NElems ok w news l) : RdNs ok w v 0 l := by
  refine RdNs.mk fun j hj => ?_
  obtain ⟨g, cap, rfl, hk, _, hcell⟩ := h.form (Nat.lt_of_le_of_lt (Nat.zero_le _) hj)
  obtain ⟨cs, e0, e1, hr⟩ := hE.at_ j hj
  refine ⟨g, j * 10, cs, ⟨0, _, _, rfl, by omega, hk⟩, e0, fun i u hi => hcell _ _ (e1 i u hi), hr⟩
theorem Elems.snoc {ok : Nat → Prop} {w : World} {news : List Value} {l : List V} {c0 c1 c2 c3 c4 : Value} {X : V} (h : Elems ok w news l) (h0 : RdV ok w (.agg #[c0, c1, c2, c3, c4]) X) : Elems ok w (news ++ [c0, c1, c2, c3, c4]) (l ++ [X]) :=
  h.append ((Elems.nil ok w).cons h0)
end Go.Proofs.YtlnhhffhmeekoaaGreatDoor
namespace Go.Proofs.YtlnhhffhmeekoaaGreatDoor
open Go.RowKit

/-- a value without parts -/
def PlainV (x : V) : Prop := i64ok x.kind ∧ i64ok x.num ∧ x.str.length ≤ 16777216 ∧ x.parts = [] ∧ x.keys = []
abbrev cellsN (n : N) (lv : Value) : List Value := [.int .i64 n.kind, .string ⟨n.text.toArray⟩, .int .i64 n.val.kind, .int .i64 n.val.num, .string ⟨n.val.str.toArray⟩, .slice none 0 0, .slice none 0 0, .bool n.flag, lv, .int .i64 n.spot]
mutual
/-- the cells are those of a node; its rows, and its kids', are blocks of 'ok', each of one node alone -/
def OwN (ok : Nat → Prop) (w : World) (cs : List Value) : N → Prop
  | .mk k t x f l a => i64ok k ∧ i64ok a ∧ t.length ≤ 16777216 ∧ PlainV x ∧ l.length ≤ 16777216 ∧ ∃ lv news, cs = cellsN (.mk k t x f l a) lv ∧ OwnR 29 10 ok w lv l.length news ∧ OwNs (fun b => ok b ∧ some b ≠ lv.ownBlock) w news l
def OwNs (ok : Nat → Prop) (w : World) (news : List Value) : List N → Prop
  | [] => news = []
  | n :: l => ∃ (ok1 ok2 : Nat → Prop) (cs rest : List Value), news = cs ++ rest ∧ (∀ b, ok1 b → ok b) ∧ (∀ b, ok2 b → ok b) ∧ (∀ b, ok1 b → ¬ ok2 b) ∧ OwN ok1 w cs n ∧ OwNs ok2 w rest l
end
theorem OwN.open {ok : Nat → Prop} {w : World} {cs : List Value} {n : N} (h : OwN ok w cs n) : i64ok n.kind ∧ i64ok n.spot ∧ n.text.length ≤ 16777216 ∧ PlainV n.val ∧ n.kids.length ≤ 16777216 ∧ ∃ lv news, cs = cellsN n lv ∧ OwnR 29 10 ok w lv n.kids.length news ∧ OwNs (fun b => ok b ∧ some b ≠ lv.ownBlock) w news n.kids := by
  cases n with
  | mk k t x f l a =>
    unfold OwN at h
    exact h
theorem OwN.close {ok : Nat → Prop} {w : World} {n : N} (h1 : i64ok n.kind) (h2 : i64ok n.spot) (h3 : n.text.length ≤ 16777216) (h4 : PlainV n.val) (h5 : n.kids.length ≤ 16777216) {lv : Value} {news : List Value} (h6 : OwnR 29 10 ok w lv n.kids.length news) (h7 : OwNs (fun b => ok b ∧ some b ≠ lv.ownBlock) w news n.kids) : OwN ok w (cellsN n lv) n := by
  cases n with
  | mk k t x f l a =>
    unfold OwN
    exact ⟨h1, h2, h3, h4, h5, lv, news, rfl, h6, h7⟩
theorem OwN.len {ok : Nat → Prop} {w : World} {cs : List Value} {n : N} (h : OwN ok w cs n) : cs.length = 10 := by
  obtain ⟨_, _, _, _, _, lv, news, rfl, _⟩ := h.open
  rfl
mutual
theorem OwN.imp {w : World} : ∀ {ok ok' : Nat → Prop} (_ : ∀ b, b < w.heap.size → ok b → ok' b) {cs : List Value} {n : N}, OwN ok w cs n → OwN ok' w cs n
  | ok, ok', hk, cs, .mk k t x f l a, h => by
    unfold OwN at h ⊢
    obtain ⟨h1, h2, h3, h4, h5, lv, news, h6, h7, h8⟩ := h
    exact ⟨h1, h2, h3, h4, h5, lv, news, h6, h7.mono hk, OwNs.imp (fun b hb h => ⟨hk b hb h.1, h.2⟩) h8⟩
theorem OwNs.imp {w : World} : ∀ {ok ok' : Nat → Prop} (_ : ∀ b, b < w.heap.size → ok b → ok' b) {news : List Value} {l : List N}, OwNs ok w news l → OwNs ok' w news l
  | ok, ok', hk, news, [], h => by unfold OwNs at h ⊢; exact h
  | ok, ok', hk, news, n :: l, h => by
    unfold OwNs at h ⊢
    obtain ⟨ok1, ok2, cs, rest, h1, h2, h3, h4, h5, h6⟩ := h
    exact ⟨fun b => ok1 b ∧ b < w.heap.size, fun b => ok2 b ∧ b < w.heap.size, cs, rest, h1, fun b hb => hk b hb.2 (h2 b hb.1), fun b hb => hk b hb.2 (h3 b hb.1), fun b hb hb' => h4 b hb.1 hb'.1, OwN.imp (fun b hb h => ⟨h, hb⟩) h5, OwNs.imp (fun b hb h => ⟨h, hb⟩) h6⟩
end
mutual
theorem OwN.fr {w w1 : World} {ok' : Nat → Prop} (hf : Fr ok' w w1) : ∀ {ok : Nat → Prop} (_ : ∀ b, b < w.heap.size → ok b → ¬ ok' b) {cs : List Value} {n : N}, OwN ok w cs n → OwN ok w1 cs n
  | ok, hn, cs, .mk k t x f l a, h => by
    unfold OwN at h ⊢
    obtain ⟨h1, h2, h3, h4, h5, lv, news, h6, h7, h8⟩ := h
    exact ⟨h1, h2, h3, h4, h5, lv, news, h6, h7.move (fun b hb => hf.block b (h7.lt b hb) (hn b (h7.lt b hb) (h7.blk b hb))), OwNs.fr hf (fun b hb h => hn b hb h.1) h8⟩
theorem OwNs.fr {w w1 : World} {ok' : Nat → Prop} (hf : Fr ok' w w1) : ∀ {ok : Nat → Prop} (_ : ∀ b, b < w.heap.size → ok b → ¬ ok' b) {news : List Value} {l : List N}, OwNs ok w news l → OwNs ok w1 news l
  | ok, hn, news, [], h => by unfold OwNs at h ⊢; exact h
  | ok, hn, news, n :: l, h => by
    unfold OwNs at h ⊢
    obtain ⟨ok1, ok2, cs, rest, h1, h2, h3, h4, h5, h6⟩ := h
    exact ⟨ok1, ok2, cs, rest, h1, h2, h3, h4, OwN.fr hf (fun b hb h => hn b hb (h2 b h)) h5, OwNs.fr hf (fun b hb h => hn b hb (h3 b h)) h6⟩
end
theorem OwN.below {ok : Nat → Prop} {w w1 : World} {cs : List Value} {n : N} (h : OwN ok w cs n) (hb : Below w.heap.size w w1) : OwN ok w1 cs n := h.fr (ok' := fun _ => False) (Fr.of_below hb) fun _ _ _ h => h
theorem OwNs.below {ok : Nat → Prop} {w w1 : World} {news : List Value} {l : List N} (h : OwNs ok w news l) (hb : Below w.heap.size w w1) : OwNs ok w1 news l := h.fr (ok' := fun _ => False) (Fr.of_below hb) fun _ _ _ h => h
theorem OwN.lt {ok : Nat → Prop} {w : World} {cs : List Value} {n : N} (h : OwN ok w cs n) : OwN (fun b => ok b ∧ b < w.heap.size) w cs n := h.imp fun b hb h => ⟨h, hb⟩
theorem OwNs.lt {ok : Nat → Prop} {w : World} {news : List Value} {l : List N} (h : OwNs ok w news l) : OwNs (fun b => ok b ∧ b < w.heap.size) w news l := h.imp fun b hb h => ⟨h, hb⟩
theorem OwNs.nil (ok : Nat → Prop) (w : World) : OwNs ok w [] [] := by unfold OwNs; rfl
theorem OwNs.len {ok : Nat → Prop} {w : World} : ∀ {l : List N} {ok : Nat → Prop} {news : List Value}, OwNs ok w news l → news.length = l.length * 10
  | [], ok, news, h => by unfold OwNs at h; rw [h]; rfl
  | n :: l, ok, news, h => by
    unfold OwNs at h
    obtain ⟨ok1, ok2, cs, rest, rfl, h2, h3, h4, h5, h6⟩ := h
    have := OwNs.len (ok := ok) h6
    have := h5.len
    simp only [List.length_append, List.length_cons]
    omega
/-- one more, of other blocks -/
theorem OwNs.snoc {w : World} : ∀ {l : List N} {ok ok2 : Nat → Prop} {news cs : List Value} {n : N}, OwNs ok w news l → OwN ok2 w cs n → (∀ b, ok b → ¬ ok2 b) → OwNs (fun b => ok b ∨ ok2 b) w (news ++ cs) (l ++ [n])
  | [], ok, ok2, news, cs, n, h, h', hd => by
    unfold OwNs at h
    subst h
    show OwNs _ w ([] ++ cs) [n]
    unfold OwNs
    exact ⟨ok2, fun _ => False, cs, [], by simp, fun b h => .inr h, fun b h => h.elim, fun b _ h => h, h', OwNs.nil _ _⟩
  | x :: l, ok, ok2, news, cs, n, h, h', hd => by
    unfold OwNs at h
    obtain ⟨a, b, c1, rest, rfl, h2, h3, h4, h5, h6⟩ := h
    have ih := OwNs.snoc h6 h' (fun z hz => hd z (h3 z hz))
    show OwNs _ w (c1 ++ rest ++ cs) (x :: (l ++ [n]))
    unfold OwNs
    refine ⟨a, _, c1, rest ++ cs, by simp, fun z hz => .inl (h2 z hz), ?_, ?_, h5, ih⟩
    · rintro z (hz | hz)
      · exact .inl (h3 z hz)
      · exact .inr hz
    · rintro z hz (hz' | hz')
      · exact h4 z hz hz'
      · exact hd z (h2 z hz) hz'
theorem PlainV.rd {x : V} (h : PlainV x) (ok : Nat → Prop) (w : World) : RdV ok w (.agg #[.int .i64 x.kind, .int .i64 x.num, .string ⟨x.str.toArray⟩, .slice none 0 0, .slice none 0 0]) x := by
  cases x with
  | mk k n s l ks =>
    obtain ⟨h1, h2, h3, h4, h5⟩ := h
    simp only [V.parts, V.keys] at h4 h5
    subst h4 h5
    exact RdV.plain k n s h1 h2 h3
mutual
theorem OwN.rd {w : World} : ∀ {ok : Nat → Prop} {cs : List Value} {n : N}, OwN ok w cs n → RdN ok w (.agg cs.toArray) n
  | ok, cs, .mk k t x f l a, h => by
    unfold OwN at h
    obtain ⟨h1, h2, h3, h4, h5, lv, news, rfl, h7, h8⟩ := h
    unfold RdN
    refine ⟨h1, h2, h3, _, _, _, _, _, lv, rfl, h4.rd ok w, h7.slForm h5, RdNs.own h7 ((OwNs.rd h8).imp fun b hb => hb.1)⟩
theorem OwNs.rd {w : World} : ∀ {ok : Nat → Prop} {news : List Value} {l : List N}, OwNs ok w news l → NElems ok w news l
  | ok, news, [], h => by unfold OwNs at h; subst h; exact NElems.nil _ _
  | ok, news, n :: l, h => by
    unfold OwNs at h
    obtain ⟨ok1, ok2, cs, rest, rfl, h2, h3, h4, h5, h6⟩ := h
    exact NElems.cons h5.len ((OwN.rd h5).imp h2) ((OwNs.rd h6).imp h3)
end
theorem OwNs.one {ok : Nat → Prop} {w : World} {news : List Value} {l : List N} (h : OwNs ok w news l) : ∀ u ∈ news, u.oneCell' = true := h.rd.one
theorem OwN.one {ok : Nat → Prop} {w : World} {cs : List Value} {n : N} (h : OwN ok w cs n) : ∀ u ∈ cs, u.oneCell' = true := (h.rd).ones
/-- a node without kids -/
theorem OwN.leaf (ok : Nat → Prop) (w : World) (n : N) (h1 : i64ok n.kind) (h2 : i64ok n.spot) (h3 : n.text.length ≤ 16777216) (h4 : PlainV n.val) (h5 : n.kids = []) : OwN ok w (cellsN n (.slice none 0 0)) n :=
  OwN.close h1 h2 h3 h4 (by rw [h5]; simp) (news := []) (by rw [h5]; exact OwnR.nil _ _ _ _) (by rw [h5]; exact OwNs.nil _ _)
theorem Fr.same {w w1 : World} (h1 : w1.os = w.os) (h2 : w1.tape = w.tape) (h3 : w1.output = w.output) (hh : w1.heap = w.heap) : Fr (fun _ => False) w w1 := ⟨h1, h2, h3, by rw [hh]; exact Nat.le_refl _, fun k _ _ => by rw [hh]⟩
theorem OwN.drew {ok : Nat → Prop} {w : World} {cs : List Value} {n : N} (h : OwN ok w cs n) : OwN ok w.drew cs n := h.below (Below.refl _ w).drew
/-- a row of kids of a call's own -/
def KidRow (ok : Nat → Prop) (w : World) (lv : Value) (l : List N) : Prop := ∃ news, OwnR 29 10 ok w lv l.length news ∧ OwNs (fun b => ok b ∧ some b ≠ lv.ownBlock) w news l
theorem KidRow.nil (ok : Nat → Prop) (w : World) : KidRow ok w (.slice none 0 0) [] := ⟨[], OwnR.nil _ _ _ _, OwNs.nil _ _⟩
theorem KidRow.fr {ok ok' : Nat → Prop} {w w1 : World} {lv : Value} {l : List N} (h : KidRow ok w lv l) (hf : Fr ok' w w1) (hn : ∀ b, b < w.heap.size → ok b → ¬ ok' b) : KidRow ok w1 lv l := by
  obtain ⟨news, h1, h2⟩ := h
  exact ⟨news, h1.move (fun b hb => hf.block b (h1.lt b hb) (hn b (h1.lt b hb) (h1.blk b hb))), h2.fr hf fun b hb h => hn b hb h.1⟩
theorem KidRow.below {ok : Nat → Prop} {w w1 : World} {lv : Value} {l : List N} (h : KidRow ok w lv l) (hb : Below w.heap.size w w1) : KidRow ok w1 lv l := h.fr (ok' := fun _ => False) (Fr.of_below hb) fun _ _ _ h => h
theorem KidRow.imp {ok ok' : Nat → Prop} {w : World} {lv : Value} {l : List N} (h : KidRow ok w lv l) (hk : ∀ b, b < w.heap.size → ok b → ok' b) : KidRow ok' w lv l := by
  obtain ⟨news, h1, h2⟩ := h
  exact ⟨news, h1.mono hk, h2.imp fun b hb h => ⟨hk b hb h.1, h.2⟩⟩
theorem KidRow.lvs {ok : Nat → Prop} {w : World} {lv : Value} {l : List N} (h : KidRow ok w lv l) : ∃ A c, lv = .slice A l.length c := by
  obtain ⟨news, h1, _⟩ := h
  obtain ⟨A, c, hv, _⟩ := h1.slice
  exact ⟨A, c, hv⟩
theorem OwN.of {ok : Nat → Prop} {w : World} {n : N} (h1 : i64ok n.kind) (h2 : i64ok n.spot) (h3 : n.text.length ≤ 16777216) (h4 : PlainV n.val) (h5 : n.kids.length ≤ 16777216) {lv : Value} (h : KidRow ok w lv n.kids) : OwN ok w (cellsN n lv) n := by
  obtain ⟨news, h6, h7⟩ := h
  exact OwN.close h1 h2 h3 h4 h5 h6 h7
/-- a literal of one kid -/
theorem KidRow.one {B : Nat} {w : World} {cs : List Value} {n : N} (h : OwN (fun b => B ≤ b) w cs n) (hB : B ≤ w.heap.size) (cells : Array Value) (hc : cells = cs.toArray) : KidRow (fun b => B ≤ b) (w.alloc (.cells cells 29)) (.slice (some ⟨w.heap.size, 0, none⟩) 1 1) [n] := by
  subst hc
  refine ⟨cs, ?_, ?_⟩
  · have := OwnR.lit 29 10 (fun b => B ≤ b) w cs.toArray 1 (by simp [h.len]) (by omega) hB
    simpa using this
  · have h1 := ((h.lt).below ((Below.refl _ w).alloc (Nat.le_refl _) (.cells cs.toArray 29)))
    have h2 := OwNs.snoc (OwNs.nil (fun _ => False) (w.alloc (.cells cs.toArray 29))) h1 (fun b h => h.elim)
    simp only [List.nil_append] at h2
    refine h2.imp fun b _ hb => ?_
    rcases hb with hb | hb
    · exact hb.elim
    · exact ⟨hb.1, fun e => by have := own_blk e.symm; omega⟩
/-- a literal of two -/
theorem KidRow.two {B : Nat} {w : World} {cs ds : List Value} {n m : N} {C : Nat} (h : OwN (fun b => B ≤ b ∧ b < C) w cs n) (h' : OwN (fun b => C ≤ b) w ds m) (hB : B ≤ w.heap.size) (hBC : B ≤ C) (cells : Array Value) (hc : cells = (cs ++ ds).toArray) :
    KidRow (fun b => B ≤ b) (w.alloc (.cells cells 29)) (.slice (some ⟨w.heap.size, 0, none⟩) 2 2) [n, m] := by
  subst hc
  have hb := ((Below.refl _ w).alloc (Nat.le_refl _) (.cells (cs ++ ds).toArray 29))
  refine ⟨cs ++ ds, ?_, ?_⟩
  · have := OwnR.lit 29 10 (fun b => B ≤ b) w (cs ++ ds).toArray 2 (by simp [h.len, h'.len]) (by omega) hB
    simpa using this
  · have h2 := OwNs.snoc (OwNs.snoc (OwNs.nil (fun _ => False) (w.alloc (.cells (cs ++ ds).toArray 29))) ((h.lt).below hb) (fun b h => h.elim)) ((h'.lt).below hb) (fun b h1 h2 => by
      rcases h1 with h1 | h1
      · exact h1
      · omega)
    simp only [List.nil_append, List.singleton_append] at h2
    refine h2.imp fun b _ hb => ?_
    rcases hb with (hb | hb) | hb
    · exact hb.elim
    · exact ⟨hb.1.1, fun e => by have := own_blk e.symm; omega⟩
    · exact ⟨by omega, fun e => by have := own_blk e.symm; omega⟩
theorem KidRow.pair {P1 P2 ok : Nat → Prop} {w : World} {cs ds : List Value} {n m : N} (h : OwN P1 w cs n) (h' : OwN P2 w ds m) (hd : ∀ b, P1 b → ¬ P2 b) (h1 : ∀ b, b < w.heap.size → P1 b → ok b) (h2 : ∀ b, b < w.heap.size → P2 b → ok b) (h3 : ok w.heap.size) (cells : Array Value) (hc : cells = (cs ++ ds).toArray) :
    KidRow ok (w.alloc (.cells cells 29)) (.slice (some ⟨w.heap.size, 0, none⟩) 2 2) [n, m] := by
  subst hc
  have hb := ((Below.refl _ w).alloc (Nat.le_refl _) (.cells (cs ++ ds).toArray 29))
  refine ⟨cs ++ ds, ?_, ?_⟩
  · have := OwnR.lit 29 10 ok w (cs ++ ds).toArray 2 (by simp [h.len, h'.len]) (by omega) h3
    simpa using this
  · have h2' := OwNs.snoc (OwNs.snoc (OwNs.nil (fun _ => False) (w.alloc (.cells (cs ++ ds).toArray 29))) ((h.lt).below hb) (fun b h => h.elim)) ((h'.lt).below hb) (fun b h1 h2 => by
      rcases h1 with h1 | h1
      · exact h1
      · exact hd b h1.1 h2.1)
    simp only [List.nil_append, List.singleton_append] at h2'
    refine h2'.imp fun b _ hb => ?_
    rcases hb with (hb | hb) | hb
    · exact hb.elim
    · exact ⟨h1 b hb.2 hb.1, fun e => by have := own_blk e.symm; omega⟩
    · exact ⟨h2 b hb.2 hb.1, fun e => by have := own_blk e.symm; omega⟩
theorem KidRow.lit1 {P1 ok : Nat → Prop} {w : World} {cs : List Value} {n : N} (h : OwN P1 w cs n) (h1 : ∀ b, b < w.heap.size → P1 b → ok b) (h3 : ok w.heap.size) (cells : Array Value) (hc : cells = cs.toArray) : KidRow ok (w.alloc (.cells cells 29)) (.slice (some ⟨w.heap.size, 0, none⟩) 1 1) [n] := by
  subst hc
  refine ⟨cs, ?_, ?_⟩
  · have := OwnR.lit 29 10 ok w cs.toArray 1 (by simp [h.len]) (by omega) h3
    simpa using this
  · have h2 := OwNs.snoc (OwNs.nil (fun _ => False) (w.alloc (.cells cs.toArray 29))) ((h.lt).below ((Below.refl _ w).alloc (Nat.le_refl _) (.cells cs.toArray 29))) (fun b h => h.elim)
    simp only [List.nil_append] at h2
    refine h2.imp fun b _ hb => ?_
    rcases hb with hb | hb
    · exact hb.elim
    · exact ⟨h1 b hb.2 hb.1, fun e => by have := own_blk e.symm; omega⟩
/-- one more, appended -/
theorem KidRow.snoc {B : Nat} {w w2 : World} {lv lv' : Value} {l : List N} {cs : List Value} {n : N} {news : List Value} (h1 : OwnR 29 10 (fun b => B ≤ b) w lv l.length news) (h2 : OwNs (fun b => (B ≤ b) ∧ some b ≠ lv.ownBlock) w news l)
    {C : Nat} (h3 : OwN (fun b => C ≤ b) w cs n) (hC : ∀ b, (∃ z, z < w.heap.size ∧ b = z) → (B ≤ b) → True) (hlt : OwNs (fun b => ((B ≤ b) ∧ some b ≠ lv.ownBlock) ∧ b < C) w news l) (hl : ∀ b, lv.ownBlock = some b → b < C) (hBC : B ≤ C)
    (h4 : OwnR 29 10 (fun b => B ≤ b) w2 lv' (l.length + 1) (news ++ cs)) (hg : w.grownBy w2 lv.ownBlock) (hn : ∀ b, lv'.ownBlock = some b → lv.ownBlock = some b ∨ w.heap.size ≤ b) : KidRow (fun b => B ≤ b) w2 lv' (l ++ [n]) := by
  refine ⟨news ++ cs, by simpa using h4, ?_⟩
  have hf : Fr (fun b => lv.ownBlock = some b) w w2 := (Fr.refl _ w).grown hg fun k hk => hk
  have h5 : OwNs (fun b => (((B ≤ b) ∧ some b ≠ lv.ownBlock) ∧ b < C) ∧ b < w.heap.size) w2 news l := (hlt.lt).fr hf fun b _ h1 h2 => h1.1.1.2 h2.symm
  have h6 : OwN (fun b => C ≤ b ∧ b < w.heap.size) w2 cs n := (h3.lt).fr hf fun b _ h1 h2 => by have := hl b h2; omega
  refine (OwNs.snoc h5 h6 fun b h1 h2 => by omega).imp fun b _ hb => ?_
  rcases hb with hb | hb
  · refine ⟨hb.1.1.1, fun e => ?_⟩
    rcases hn b e.symm with h | h
    · exact hb.1.1.2 h.symm
    · omega
  · refine ⟨by omega, fun e => ?_⟩
    rcases hn b e.symm with h | h
    · have := hl b h; omega
    · omega
end Go.Proofs.YtlnhhffhmeekoaaGreatDoor
