/- Values (api.Value): what one is, and that a value of the model reads as one. No function of the program is named here. -/
import Derived.Test.YtacaknkfddlklaaGreatDoorMem
set_option linter.unusedVariables false
set_option linter.unusedSimpArgs false
namespace Go.Proofs.YtacaknkfddlklaaGreatDoor
open Go.RowKit

/-- a value: its kind, number, bytes, parts, keys -/
inductive V where
  | mk (kind n : Int) (s : List UInt8) (l : List V) (k : List (List UInt8))
def V.kind : V → Int | .mk a _ _ _ _ => a
def V.num : V → Int | .mk _ a _ _ _ => a
def V.str : V → List UInt8 | .mk _ _ a _ _ => a
def V.parts : V → List V | .mk _ _ _ a _ => a
def V.keys : V → List (List UInt8) | .mk _ _ _ _ a => a
def V.zero : V := .mk 0 0 [] [] []

def i64ok (n : Int) : Prop := -9223372036854775808 ≤ n ∧ n ≤ 9223372036854775807
/-- the form of a slice of n elements -/
def SlForm (v : Value) (n : Nat) : Prop := ∃ A cap, v = .slice A n cap ∧ n ≤ cap ∧ cap ≤ 9223372036854775807 ∧ n ≤ 16777216
/-- its element i begins at that cell (sz cells each) -/
def SlAt (ok : Nat → Prop) (v : Value) (sz i g o : Nat) : Prop := ∃ off n cap, v = .slice (some ⟨g, off, none⟩) n cap ∧ o = off + i * sz ∧ ok g
/-- five cells in a row -/
def Five (w : World) (g o : Nat) (v : Value) : Prop := ∃ c0 c1 c2 c3 c4, v = .agg #[c0, c1, c2, c3, c4] ∧ w.cell? ⟨g, o, none⟩ = some c0 ∧ w.cell? ⟨g, o + 1, none⟩ = some c1 ∧ w.cell? ⟨g, o + 2, none⟩ = some c2 ∧ w.cell? ⟨g, o + 3, none⟩ = some c3 ∧ w.cell? ⟨g, o + 4, none⟩ = some c4
/-- a slice of strings -/
def RdK (ok : Nat → Prop) (w : World) (v : Value) (k : List (List UInt8)) : Prop :=
  SlForm v k.length ∧ ∀ i (h : i < k.length), ∃ g o, SlAt ok v 1 i g o ∧ w.cell? ⟨g, o, none⟩ = some (.string ⟨(k[i]).toArray⟩) ∧ (k[i]).length ≤ 16777216
mutual
/-- the value of the model reads as x; its blocks are among 'ok' -/
def RdV (ok : Nat → Prop) (w : World) (v : Value) : V → Prop
  | .mk kind n s l k => i64ok kind ∧ i64ok n ∧ s.length ≤ 16777216 ∧ ∃ lv kv, v = .agg #[.int .i64 kind, .int .i64 n, .string ⟨s.toArray⟩, lv, kv] ∧ SlForm lv l.length ∧ RdVs ok w lv 0 l ∧ RdK ok w kv k
def RdVs (ok : Nat → Prop) (w : World) (lv : Value) (i : Nat) : List V → Prop
  | [] => True
  | x :: l => (∃ g o v, SlAt ok lv 5 i g o ∧ Five w g o v ∧ RdV ok w v x) ∧ RdVs ok w lv (i + 1) l
end

theorem Five.below {w w1 : World} {g o : Nat} {v : Value} (h : Five w g o v) (hb : Below w.heap.size w w1) : Five w1 g o v := by
  obtain ⟨c0, c1, c2, c3, c4, hv, h0, h1, h2, h3, h4⟩ := h
  exact ⟨c0, c1, c2, c3, c4, hv, bcell hb h0, bcell hb h1, bcell hb h2, bcell hb h3, bcell hb h4⟩
theorem RdK.below {ok : Nat → Prop} {w w1 : World} {v : Value} {k : List (List UInt8)} (h : RdK ok w v k) (hb : Below w.heap.size w w1) : RdK ok w1 v k := by
  refine ⟨h.1, fun i hi => ?_⟩
  obtain ⟨g, o, h1, h2, h3⟩ := h.2 i hi
  exact ⟨g, o, h1, bcell hb h2, h3⟩
mutual
theorem RdV.below {ok : Nat → Prop} {w w1 : World} (hb : Below w.heap.size w w1) : ∀ {v : Value} {x : V}, RdV ok w v x → RdV ok w1 v x
  | v, .mk kind n s l k, h => by
    unfold RdV at h ⊢
    obtain ⟨h1, h2, h3, lv, kv, h4, h5, h6, h7⟩ := h
    exact ⟨h1, h2, h3, lv, kv, h4, h5, RdVs.below hb h6, h7.below hb⟩
theorem RdVs.below {ok : Nat → Prop} {w w1 : World} (hb : Below w.heap.size w w1) : ∀ {lv : Value} {i : Nat} {l : List V}, RdVs ok w lv i l → RdVs ok w1 lv i l
  | lv, i, [], h => by unfold RdVs; trivial
  | lv, i, x :: l, h => by
    unfold RdVs at h ⊢
    obtain ⟨⟨g, o, v, h1, h2, h3⟩, h4⟩ := h
    exact ⟨⟨g, o, v, h1, h2.below hb, RdV.below hb h3⟩, RdVs.below hb h4⟩
end
theorem SlAt.mono {ok ok' : Nat → Prop} {v : Value} {sz i g o : Nat} (h : SlAt ok v sz i g o) (hk : ok g → ok' g) : SlAt ok' v sz i g o := by
  obtain ⟨off, n, cap, h1, h2, h3⟩ := h
  exact ⟨off, n, cap, h1, h2, hk h3⟩
theorem RdVs.get {ok : Nat → Prop} {w : World} {lv : Value} : ∀ {l : List V} {i : Nat}, RdVs ok w lv i l → ∀ j (h : j < l.length), ∃ g o v, SlAt ok lv 5 (i + j) g o ∧ Five w g o v ∧ RdV ok w v l[j]
  | [], i, h, j, hj => by simp at hj
  | x :: l, i, h, j, hj => by
    unfold RdVs at h
    cases j with
    | zero => exact h.1
    | succ j =>
      obtain ⟨g, o, v, h1, h2, h3⟩ := RdVs.get h.2 j (by simpa using hj)
      exact ⟨g, o, v, by rw [show i + (j + 1) = i + 1 + j by omega]; exact h1, h2, h3⟩
theorem RdVs.mk {ok : Nat → Prop} {w : World} {lv : Value} : ∀ {l : List V} {i : Nat}, (∀ j (h : j < l.length), ∃ g o v, SlAt ok lv 5 (i + j) g o ∧ Five w g o v ∧ RdV ok w v l[j]) → RdVs ok w lv i l
  | [], i, h => by unfold RdVs; trivial
  | x :: l, i, h => by
    unfold RdVs
    refine ⟨h 0 (by simp), RdVs.mk fun j hj => ?_⟩
    have := h (j + 1) (by simpa using hj)
    rw [show i + (j + 1) = i + 1 + j by omega] at this
    exact this
theorem RdV.open {ok : Nat → Prop} {w : World} {v : Value} {x : V} (h : RdV ok w v x) : i64ok x.kind ∧ i64ok x.num ∧ x.str.length ≤ 16777216 ∧ ∃ lv kv, v = .agg #[.int .i64 x.kind, .int .i64 x.num, .string ⟨x.str.toArray⟩, lv, kv] ∧ SlForm lv x.parts.length ∧ RdVs ok w lv 0 x.parts ∧ RdK ok w kv x.keys := by
  cases x with
  | mk kind n s l k =>
    unfold RdV at h
    exact h
theorem RdV.close {ok : Nat → Prop} {w : World} {kind n : Int} {s : List UInt8} {l : List V} {k : List (List UInt8)} {lv kv : Value} (h1 : i64ok kind) (h2 : i64ok n) (h3 : s.length ≤ 16777216) (h5 : SlForm lv l.length) (h6 : RdVs ok w lv 0 l) (h7 : RdK ok w kv k) :
    RdV ok w (.agg #[.int .i64 kind, .int .i64 n, .string ⟨s.toArray⟩, lv, kv]) (.mk kind n s l k) := by
  unfold RdV
  exact ⟨h1, h2, h3, lv, kv, rfl, h5, h6, h7⟩
theorem RdK.nil (ok : Nat → Prop) (w : World) (A : Option Addr) (cap : Nat) (hc : cap ≤ 9223372036854775807) : RdK ok w (.slice A 0 cap) [] := ⟨⟨A, cap, rfl, by simp, hc, by simp⟩, fun i h => by simp at h⟩
/-- a number's value -/
theorem RdV.plain {ok : Nat → Prop} {w : World} (kind n : Int) (s : List UInt8) (h1 : i64ok kind) (h2 : i64ok n) (h3 : s.length ≤ 16777216) : RdV ok w (.agg #[.int .i64 kind, .int .i64 n, .string ⟨s.toArray⟩, .slice none 0 0, .slice none 0 0]) (.mk kind n s [] []) :=
  RdV.close h1 h2 h3 ⟨none, 0, rfl, by simp, by omega, by simp⟩ (by unfold RdVs; trivial) (RdK.nil _ _ _ _ (by omega))

/-! what turns other blocks leaves it -/
theorem SlAt.okay {ok : Nat → Prop} {v : Value} {sz i g o : Nat} (h : SlAt ok v sz i g o) : ok g := h.choose_spec.choose_spec.choose_spec.2.2
theorem Five.fr {ok' : Nat → Prop} {w w1 : World} {g o : Nat} {v : Value} (h : Five w g o v) (hf : Fr ok' w w1) (hn : g < w.heap.size → ¬ ok' g) : Five w1 g o v := by
  obtain ⟨c0, c1, c2, c3, c4, hv, h0, h1, h2, h3, h4⟩ := h
  have hg : ¬ ok' g := hn (World.block_lt_of_cell? w _ h0)
  exact ⟨c0, c1, c2, c3, c4, hv, hf.cell h0 hg, hf.cell h1 hg, hf.cell h2 hg, hf.cell h3 hg, hf.cell h4 hg⟩
theorem RdK.fr {ok ok' : Nat → Prop} {w w1 : World} {v : Value} {k : List (List UInt8)} (h : RdK ok w v k) (hf : Fr ok' w w1) (hn : ∀ b, b < w.heap.size → ok b → ¬ ok' b) : RdK ok w1 v k := by
  refine ⟨h.1, fun i hi => ?_⟩
  obtain ⟨g, o, h1, h2, h3⟩ := h.2 i hi
  exact ⟨g, o, h1, hf.cell h2 (hn _ (World.block_lt_of_cell? w _ h2) h1.okay), h3⟩
mutual
theorem RdV.fr {ok ok' : Nat → Prop} {w w1 : World} (hf : Fr ok' w w1) (hn : ∀ b, b < w.heap.size → ok b → ¬ ok' b) : ∀ {v : Value} {x : V}, RdV ok w v x → RdV ok w1 v x
  | v, .mk kind n s l k, h => by
    unfold RdV at h ⊢
    obtain ⟨h1, h2, h3, lv, kv, h4, h5, h6, h7⟩ := h
    exact ⟨h1, h2, h3, lv, kv, h4, h5, RdVs.fr hf hn h6, h7.fr hf hn⟩
theorem RdVs.fr {ok ok' : Nat → Prop} {w w1 : World} (hf : Fr ok' w w1) (hn : ∀ b, b < w.heap.size → ok b → ¬ ok' b) : ∀ {lv : Value} {i : Nat} {l : List V}, RdVs ok w lv i l → RdVs ok w1 lv i l
  | lv, i, [], h => by unfold RdVs; trivial
  | lv, i, x :: l, h => by
    unfold RdVs at h ⊢
    obtain ⟨⟨g, o, v, h1, h2, h3⟩, h4⟩ := h
    exact ⟨⟨g, o, v, h1, h2.fr hf (fun hg => hn g hg h1.okay), RdV.fr hf hn h3⟩, RdVs.fr hf hn h4⟩
end
theorem V.sz_part {x : V} {i : Nat} (h : i < x.parts.length) : SizeOf.sizeOf x.parts[i] < SizeOf.sizeOf x := by
  cases x with
  | mk kind n s l k =>
    have h1 : SizeOf.sizeOf l[i] < SizeOf.sizeOf l := List.sizeOf_lt_of_mem (List.getElem_mem _)
    simp only [V.parts, V.mk.sizeOf_spec]
    omega

/-- a value as it stands -/
abbrev valV (x : V) (A : Option Addr) (c : Nat) (B : Option Addr) (d : Nat) : Value := .agg #[.int .i64 x.kind, .int .i64 x.num, .string ⟨x.str.toArray⟩, .slice A x.parts.length c, .slice B x.keys.length d]
theorem RdV.form {ok : Nat → Prop} {w : World} {v : Value} {x : V} (h : RdV ok w v x) : ∃ A c B d, v = valV x A c B d ∧ x.parts.length ≤ c ∧ c ≤ 9223372036854775807 ∧ x.keys.length ≤ d ∧ d ≤ 9223372036854775807 ∧ x.parts.length ≤ 16777216 ∧ x.keys.length ≤ 16777216 ∧ x.str.length ≤ 16777216 := by
  obtain ⟨_, _, hs, lv, kv, rfl, ⟨A, c, rfl, h1, h2, h3⟩, _, ⟨B, d, rfl, h4, h5, h6⟩, _⟩ := h.open
  exact ⟨A, c, B, d, rfl, h1, h2, h4, h5, h3, h6, hs⟩
/-- element j of a slice of values -/
theorem RdVs.elem {ok : Nat → Prop} {w : World} {A : Option Addr} {n c : Nat} {l : List V} (h : RdVs ok w (.slice A n c) 0 l) (j : Nat) (hj : j < l.length) :
    ∃ g off A' c' B' d', A = some ⟨g, off, none⟩ ∧ ok g ∧ RdV ok w (valV l[j] A' c' B' d') l[j] ∧ w.cell? ⟨g, off + j * 5, none⟩ = some (.int .i64 l[j].kind) ∧ w.cell? ⟨g, off + j * 5 + 1, none⟩ = some (.int .i64 l[j].num) ∧ w.cell? ⟨g, off + j * 5 + 2, none⟩ = some (.string ⟨l[j].str.toArray⟩) ∧ w.cell? ⟨g, off + j * 5 + 3, none⟩ = some (.slice A' l[j].parts.length c') ∧ w.cell? ⟨g, off + j * 5 + 4, none⟩ = some (.slice B' l[j].keys.length d') := by
  obtain ⟨g, o, v, ⟨off, nn, cc, hv, ho, hg⟩, ⟨c0, c1, c2, c3, c4, rfl, e0, e1, e2, e3, e4⟩, hr⟩ := h.get j hj
  injection hv with h1 _ _
  subst h1
  rw [Nat.zero_add] at ho
  subst ho
  obtain ⟨A', c', B', d', hf, _⟩ := hr.form
  have hr' := hr
  rw [hf] at hr'
  injection hf with hf
  simp only [Array.mk.injEq, List.cons.injEq, and_true] at hf
  obtain ⟨rfl, rfl, rfl, rfl, rfl⟩ := hf
  exact ⟨g, off, A', c', B', d', rfl, hg, hr', e0, e1, e2, e3, e4⟩
/-- key j of a slice of strings -/
theorem RdK.elem {ok : Nat → Prop} {w : World} {B : Option Addr} {n d : Nat} {k : List (List UInt8)} (h : RdK ok w (.slice B n d) k) (j : Nat) (hj : j < k.length) :
    ∃ g off, B = some ⟨g, off, none⟩ ∧ ok g ∧ w.cell? ⟨g, off + j, none⟩ = some (.string ⟨(k[j]).toArray⟩) ∧ (k[j]).length ≤ 16777216 := by
  obtain ⟨g, o, ⟨off, nn, cc, hv, ho, hg⟩, h2, h3⟩ := h.2 j hj
  injection hv with h1 _ _
  subst h1
  rw [Nat.mul_one] at ho
  subst ho
  exact ⟨g, off, rfl, hg, h2, h3⟩
end Go.Proofs.YtacaknkfddlklaaGreatDoor
