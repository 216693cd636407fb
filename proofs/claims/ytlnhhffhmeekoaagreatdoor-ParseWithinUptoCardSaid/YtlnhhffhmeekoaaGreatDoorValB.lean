/- Values (api.Value): what one is, and that a value of the model reads as one. No function of the program is named here. What a function of prim answers: a value in new memory, and a trap. No function of the program is named here. append(nil, l...): the elements in new memory; make([]T, n). No function of the program is named here. The plain words of values: which may be (rightS), how heavy they are (wS), in which order. Plain definitions and facts. A value's blocks are there. -/
import Derived.Test.YtlnhhffhmeekoaaGreatDoorMem
import Derived.Laws.MakeOwn
set_option linter.unusedVariables false
set_option linter.unusedSimpArgs false
namespace Go.Proofs.YtlnhhffhmeekoaaGreatDoor
open Go.RowKit

/-- a value: its kind, number, bytes, parts, keys -/
inductive V where
  | mk (kind n : Int) (s : List UInt8) (l : List V) (k : List (List UInt8))
def V.kind : V → Int | .mk a _ _ _ _ => a
def V.num : V → Int | .mk _ a _ _ _ => a
def V.str : V → List UInt8 | .mk _ _ a _ _ => a
def V.parts : V → List V | .mk _ _ _ a _ => a
def V.keys : V → List (List UInt8) | .mk _ _ _ _ a => a
def V.zero : V := .mk 0 0 [] [] []

def i64ok (n : Int) : Prop := -9223372036854775808 ≤ n ∧ n ≤ 9223372036854775807
/-- the form of a slice of n elements -/
def SlForm (v : Value) (n : Nat) : Prop := ∃ A cap, v = .slice A n cap ∧ n ≤ cap ∧ cap ≤ 9223372036854775807 ∧ n ≤ 16777216
/-- its element i begins at that cell (sz cells each) -/
def SlAt (ok : Nat → Prop) (v : Value) (sz i g o : Nat) : Prop := ∃ off n cap, v = .slice (some ⟨g, off, none⟩) n cap ∧ o = off + i * sz ∧ ok g
/-- five cells in a row -/
def Five (w : World) (g o : Nat) (v : Value) : Prop := ∃ c0 c1 c2 c3 c4, v = .agg #[c0, c1, c2, c3, c4] ∧ w.cell? ⟨g, o, none⟩ = some c0 ∧ w.cell? ⟨g, o + 1, none⟩ = some c1 ∧ w.cell? ⟨g, o + 2, none⟩ = some c2 ∧ w.cell? ⟨g, o + 3, none⟩ = some c3 ∧ w.cell? ⟨g, o + 4, none⟩ = some c4
/-- a slice of strings -/
def RdK (ok : Nat → Prop) (w : World) (v : Value) (k : List (List UInt8)) : Prop :=
  SlForm v k.length ∧ ∀ i (h : i < k.length), ∃ g o, SlAt ok v 1 i g o ∧ w.cell? ⟨g, o, none⟩ = some (.string ⟨(k[i]).toArray⟩) ∧ (k[i]).length ≤ 16777216
mutual
/-- the value of the model reads as x; its blocks are among 'ok' -/
def RdV (ok : Nat → Prop) (w : World) (v : Value) : V → Prop
  | .mk kind n s l k => i64ok kind ∧ i64ok n ∧ s.length ≤ 16777216 ∧ ∃ lv kv, v = .agg #[.int .i64 kind, .int .i64 n, .string ⟨s.toArray⟩, lv, kv] ∧ SlForm lv l.length ∧ RdVs ok w lv 0 l ∧ RdK ok w kv k
def RdVs (ok : Nat → Prop) (w : World) (lv : Value) (i : Nat) : List V → Prop
  | [] => True
  | x :: l => (∃ g o v, SlAt ok lv 5 i g o ∧ Five w g o v ∧ RdV ok w v x) ∧ RdVs ok w lv (i + 1) l
end

theorem Five.below {w w1 : World} {g o : Nat} {v : Value} (h : Five w g o v) (hb : Below w.heap.size w w1) : Five w1 g o v := by
  obtain ⟨c0, c1, c2, c3, c4, hv, h0, h1, h2, h3, h4⟩ := h
  exact ⟨c0, c1, c2, c3, c4, hv, bcell hb h0, bcell hb h1, bcell hb h2, bcell hb h3, bcell hb h4⟩
theorem RdK.below {ok : Nat → Prop} {w w1 : World} {v : Value} {k : List (List UInt8)} (h : RdK ok w v k) (hb : Below w.heap.size w w1) : RdK ok w1 v k := by
  refine ⟨h.1, fun i hi => ?_⟩
  obtain ⟨g, o, h1, h2, h3⟩ := h.2 i hi
  exact ⟨g, o, h1, bcell hb h2, h3⟩
mutual
theorem RdV.below {ok : Nat → Prop} {w w1 : World} (hb : Below w.heap.size w w1) : ∀ {v : Value} {x : V}, RdV ok w v x → RdV ok w1 v x
  | v, .mk kind n s l k, h => by
    unfold RdV at h ⊢
    obtain ⟨h1, h2, h3, lv, kv, h4, h5, h6, h7⟩ := h
    exact ⟨h1, h2, h3, lv, kv, h4, h5, RdVs.below hb h6, h7.below hb⟩
theorem RdVs.below {ok : Nat → Prop} {w w1 : World} (hb : Below w.heap.size w w1) : ∀ {lv : Value} {i : Nat} {l : List V}, RdVs ok w lv i l → RdVs ok w1 lv i l
  | lv, i, [], h => by unfold RdVs; trivial
  | lv, i, x :: l, h => by
    unfold RdVs at h ⊢
    obtain ⟨⟨g, o, v, h1, h2, h3⟩, h4⟩ := h
    exact ⟨⟨g, o, v, h1, h2.below hb, RdV.below hb h3⟩, RdVs.below hb h4⟩
end
theorem SlAt.mono {ok ok' : Nat → Prop} {v : Value} {sz i g o : Nat} (h : SlAt ok v sz i g o) (hk : ok g → ok' g) : SlAt ok' v sz i g o := by
  obtain ⟨off, n, cap, h1, h2, h3⟩ := h
  exact ⟨off, n, cap, h1, h2, hk h3⟩
theorem RdVs.get {ok : Nat → Prop} {w : World} {lv : Value} : ∀ {l : List V} {i : Nat}, RdVs ok w lv i l → ∀ j (h : j < l.length), ∃ g o v, SlAt ok lv 5 (i + j) g o ∧ Five w g o v ∧ RdV ok w v l[j]
  | [], i, h, j, hj => by simp at hj
  | x :: l, i, h, j, hj => by
    unfold RdVs at h
    cases j with
    | zero => exact h.1
    | succ j =>
      obtain ⟨g, o, v, h1, h2, h3⟩ := RdVs.get h.2 j (by simpa using hj)
      exact ⟨g, o, v, by rw [show i + (j + 1) = i + 1 + j by omega]; exact h1, h2, h3⟩
theorem RdVs.mk {ok : Nat → Prop} {w : World} {lv : Value} : ∀ {l : List V} {i : Nat}, (∀ j (h : j < l.length), ∃ g o v, SlAt ok lv 5 (i + j) g o ∧ Five w g o v ∧ RdV ok w v l[j]) → RdVs ok w lv i l
  | [], i, h => by unfold RdVs; trivial
  | x :: l, i, h => by
    unfold RdVs
    refine ⟨h 0 (by simp), RdVs.mk fun j hj => ?_⟩
    have := h (j + 1) (by simpa using hj)
    rw [show i + (j + 1) = i + 1 + j by omega] at this
    exact this
theorem RdV.open {ok : Nat → Prop} {w : World} {v : Value} {x : V} (h : RdV ok w v x) : i64ok x.kind ∧ i64ok x.num ∧ x.str.length ≤ 16777216 ∧ ∃ lv kv, v = .agg #[.int .i64 x.kind, .int .i64 x.num, .string ⟨x.str.toArray⟩, lv, kv] ∧ SlForm lv x.parts.length ∧ RdVs ok w lv 0 x.parts ∧ RdK ok w kv x.keys := by
  cases x with
  | mk kind n s l k =>
    unfold RdV at h
    exact h
theorem RdV.close {ok : Nat → Prop} {w : World} {kind n : Int} {s : List UInt8} {l : List V} {k : List (List UInt8)} {lv kv : Value} (h1 : i64ok kind) (h2 : i64ok n) (h3 : s.length ≤ 16777216) (h5 : SlForm lv l.length) (h6 : RdVs ok w lv 0 l) (h7 : RdK ok w kv k) :
    RdV ok w (.agg #[.int .i64 kind, .int .i64 n, .string ⟨s.toArray⟩, lv, kv]) (.mk kind n s l k) := by
  unfold RdV
  exact ⟨h1, h2, h3, lv, kv, rfl, h5, h6, h7⟩
theorem RdK.nil (ok : Nat → Prop) (w : World) (A : Option Addr) (cap : Nat) (hc : cap ≤ 9223372036854775807) : RdK ok w (.slice A 0 cap) [] := ⟨⟨A, cap, rfl, by simp, hc, by simp⟩, fun i h => by simp at h⟩
/-- a number's value -/
theorem RdV.plain {ok : Nat → Prop} {w : World} (kind n : Int) (s : List UInt8) (h1 : i64ok kind) (h2 : i64ok n) (h3 : s.length ≤ 16777216) : RdV ok w (.agg #[.int .i64 kind, .int .i64 n, .string ⟨s.toArray⟩, .slice none 0 0, .slice none 0 0]) (.mk kind n s [] []) :=
  RdV.close h1 h2 h3 ⟨none, 0, rfl, by simp, by omega, by simp⟩ (by unfold RdVs; trivial) (RdK.nil _ _ _ _ (by omega))

/-! what turns other blocks leaves it -/
theorem SlAt.okay {ok : Nat → Prop} {v : Value} {sz i g o : Nat} (h : SlAt ok v sz i g o) : ok g := h.choose_spec.choose_spec.choose_spec.2.2
theorem Five.fr {ok' : Nat → Prop} {w w1 : World} {g o : Nat} {v : Value} (h : Five w g o v) (hf : Fr ok' w w1) (hn : g < w.heap.size → ¬ ok' g) : Five w1 g o v := by
  obtain ⟨c0, c1, c2, c3, c4, hv, h0, h1, h2, h3, h4⟩ := h
  have hg : ¬ ok' g := hn (World.block_lt_of_cell? w _ h0)
  exact ⟨c0, c1, c2, c3, c4, hv, hf.cell h0 hg, hf.cell h1 hg, hf.cell h2 hg, hf.cell h3 hg, hf.cell h4 hg⟩
theorem RdK.fr {ok ok' : Nat → Prop} {w w1 : World} {v : Value} {k : List (List UInt8)} (h : RdK ok w v k) (hf : Fr ok' w w1) (hn : ∀ b, b < w.heap.size → ok b → ¬ ok' b) : RdK ok w1 v k := by
  refine ⟨h.1, fun i hi => ?_⟩
  obtain ⟨g, o, h1, h2, h3⟩ := h.2 i hi
  exact ⟨g, o, h1, hf.cell h2 (hn _ (World.block_lt_of_cell? w _ h2) h1.okay), h3⟩
mutual
theorem RdV.fr {ok ok' : Nat → Prop} {w w1 : World} (hf : Fr ok' w w1) (hn : ∀ b, b < w.heap.size → ok b → ¬ ok' b) : ∀ {v : Value} {x : V}, RdV ok w v x → RdV ok w1 v x
  | v, .mk kind n s l k, h => by
    unfold RdV at h ⊢
    obtain ⟨h1, h2, h3, lv, kv, h4, h5, h6, h7⟩ := h
    exact ⟨h1, h2, h3, lv, kv, h4, h5, RdVs.fr hf hn h6, h7.fr hf hn⟩
theorem RdVs.fr {ok ok' : Nat → Prop} {w w1 : World} (hf : Fr ok' w w1) (hn : ∀ b, b < w.heap.size → ok b → ¬ ok' b) : ∀ {lv : Value} {i : Nat} {l : List V}, RdVs ok w lv i l → RdVs ok w1 lv i l
  | lv, i, [], h => by unfold RdVs; trivial
  | lv, i, x :: l, h => by
    unfold RdVs at h ⊢
    obtain ⟨⟨g, o, v, h1, h2, h3⟩, h4⟩ := h
    exact ⟨⟨g, o, v, h1, h2.fr hf (fun hg => hn g hg h1.okay), RdV.fr hf hn h3⟩, RdVs.fr hf hn h4⟩
end
theorem V.sz_part {x : V} {i : Nat} (h : i < x.parts.length) : SizeOf.sizeOf x.parts[i] < SizeOf.sizeOf x := by
  cases x with
  | mk kind n s l k =>
    have h1 : SizeOf.sizeOf l[i] < SizeOf.sizeOf l := List.sizeOf_lt_of_mem (List.getElem_mem _)
    simp only [V.parts, V.mk.sizeOf_spec]
    omega

/-- a value as it stands -/
abbrev valV (x : V) (A : Option Addr) (c : Nat) (B : Option Addr) (d : Nat) : Value := .agg #[.int .i64 x.kind, .int .i64 x.num, .string ⟨x.str.toArray⟩, .slice A x.parts.length c, .slice B x.keys.length d]
theorem RdV.form {ok : Nat → Prop} {w : World} {v : Value} {x : V} (h : RdV ok w v x) : ∃ A c B d, v = valV x A c B d ∧ x.parts.length ≤ c ∧ c ≤ 9223372036854775807 ∧ x.keys.length ≤ d ∧ d ≤ 9223372036854775807 ∧ x.parts.length ≤ 16777216 ∧ x.keys.length ≤ 16777216 ∧ x.str.length ≤ 16777216 := by
  obtain ⟨_, _, hs, lv, kv, rfl, ⟨A, c, rfl, h1, h2, h3⟩, _, ⟨B, d, rfl, h4, h5, h6⟩, _⟩ := h.open
  exact ⟨A, c, B, d, rfl, h1, h2, h4, h5, h3, h6, hs⟩
/-- element j of a slice of values -/
theorem RdVs.elem {ok : Nat → Prop} {w : World} {A : Option Addr} {n c : Nat} {l : List V} (h : RdVs ok w (.slice A n c) 0 l) (j : Nat) (hj : j < l.length) :
    ∃ g off A' c' B' d', A = some ⟨g, off, none⟩ ∧ ok g ∧ RdV ok w (valV l[j] A' c' B' d') l[j] ∧ w.cell? ⟨g, off + j * 5, none⟩ = some (.int .i64 l[j].kind) ∧ w.cell? ⟨g, off + j * 5 + 1, none⟩ = some (.int .i64 l[j].num) ∧ w.cell? ⟨g, off + j * 5 + 2, none⟩ = some (.string ⟨l[j].str.toArray⟩) ∧ w.cell? ⟨g, off + j * 5 + 3, none⟩ = some (.slice A' l[j].parts.length c') ∧ w.cell? ⟨g, off + j * 5 + 4, none⟩ = some (.slice B' l[j].keys.length d') := by
  obtain ⟨g, o, v, ⟨off, nn, cc, hv, ho, hg⟩, ⟨c0, c1, c2, c3, c4, rfl, e0, e1, e2, e3, e4⟩, hr⟩ := h.get j hj
  injection hv with h1 _ _
  subst h1
  rw [Nat.zero_add] at ho
  subst ho
  obtain ⟨A', c', B', d', hf, _⟩ := hr.form
  have hr' := hr
  rw [hf] at hr'
  injection hf with hf
  simp only [Array.mk.injEq, List.cons.injEq, and_true] at hf
  obtain ⟨rfl, rfl, rfl, rfl, rfl⟩ := hf
  exact ⟨g, off, A', c', B', d', rfl, hg, hr', e0, e1, e2, e3, e4⟩
/-- key j of a slice of strings -/
theorem RdK.elem {ok : Nat → Prop} {w : World} {B : Option Addr} {n d : Nat} {k : List (List UInt8)} (h : RdK ok w (.slice B n d) k) (j : Nat) (hj : j < k.length) :
    ∃ g off, B = some ⟨g, off, none⟩ ∧ ok g ∧ w.cell? ⟨g, off + j, none⟩ = some (.string ⟨(k[j]).toArray⟩) ∧ (k[j]).length ≤ 16777216 := by
  obtain ⟨g, o, ⟨off, nn, cc, hv, ho, hg⟩, h2, h3⟩ := h.2 j hj
  injection hv with h1 _ _
  subst h1
  rw [Nat.mul_one] at ho
  subst ho
  exact ⟨g, off, rfl, hg, h2, h3⟩
end Go.Proofs.YtlnhhffhmeekoaaGreatDoor
namespace Go.Proofs.YtlnhhffhmeekoaaGreatDoor
open Go.RowKit

theorem SlAt.imp {ok ok' : Nat → Prop} {v : Value} {sz i g o : Nat} (h : SlAt ok v sz i g o) (hk : ∀ b, ok b → ok' b) : SlAt ok' v sz i g o := h.mono (hk _)
theorem RdK.imp {ok ok' : Nat → Prop} {w : World} {v : Value} {k : List (List UInt8)} (h : RdK ok w v k) (hk : ∀ b, ok b → ok' b) : RdK ok' w v k := by
  refine ⟨h.1, fun i hi => ?_⟩
  obtain ⟨g, o, h1, h2, h3⟩ := h.2 i hi
  exact ⟨g, o, h1.imp hk, h2, h3⟩
mutual
theorem RdV.imp {ok ok' : Nat → Prop} {w : World} (hk : ∀ b, ok b → ok' b) : ∀ {v : Value} {x : V}, RdV ok w v x → RdV ok' w v x
  | v, .mk kind n s l k, h => by
    unfold RdV at h ⊢
    obtain ⟨h1, h2, h3, lv, kv, h4, h5, h6, h7⟩ := h
    exact ⟨h1, h2, h3, lv, kv, h4, h5, RdVs.imp hk h6, h7.imp hk⟩
theorem RdVs.imp {ok ok' : Nat → Prop} {w : World} (hk : ∀ b, ok b → ok' b) : ∀ {lv : Value} {i : Nat} {l : List V}, RdVs ok w lv i l → RdVs ok' w lv i l
  | lv, i, [], h => by unfold RdVs; trivial
  | lv, i, x :: l, h => by
    unfold RdVs at h ⊢
    obtain ⟨⟨g, o, v, h1, h2, h3⟩, h4⟩ := h
    exact ⟨⟨g, o, v, h1.imp hk, h2, RdV.imp hk h3⟩, RdVs.imp hk h4⟩
end
/-- new memory: blocks from n on -/
abbrev newB (n : Nat) : Nat → Prop := fun b => n ≤ b
/-- the answer: the value X in new memory, and the trap t -/
def AnsPost (w : World) (X : V) (t : Int) (e : Ending) (w' : World) : Prop := ∃ v, e = .returned (.tuple #[v, .int .i64 t]) ∧ RdV (newB w.heap.size) w' v X ∧ Below w.heap.size w w'
theorem i64ok_wrap (n : Int) : i64ok (wrap64 n) := by unfold i64ok wrap64; omega
theorem i64ok_small {n : Int} (h1 : -1000 ≤ n) (h2 : n ≤ 1000) : i64ok n := by unfold i64ok; omega
end Go.Proofs.YtlnhhffhmeekoaaGreatDoor
namespace Go.Proofs.YtlnhhffhmeekoaaGreatDoor
open Go.RowKit

theorem below_of_grown {w w' : World} (h : w.grownBy w' none) : Below w.heap.size w w' :=
  ⟨h.os, h.tape, h.output, h.size, fun k hk => h.block k hk (by simp)⟩
theorem run_append_none {P : Program} {w : World} (t ty e : TypeId) (i : TypeInfo) (ht : P.underlying t = some (.slice e)) (hi : P.info? e = some i) (A : Option Addr) (c : Nat) :
    (Builtin.append_ #[t, t] ty #[.slice none 0 0, .slice A 0 c]).run P w = .ok (.slice none 0 0) w := by
  cases A <;> simp [Builtin.append_, run_underlying ht, sizeOf, typeInfo, hi, Builtin.lenOf, Builtin.firstCells, go_sem]
theorem run_append_nil {P : Program} {w : World} (t ty e : TypeId) (i : TypeInfo) (z : Value) (size bytes : Nat) (ht : P.underlying t = some (.slice e)) (hi : P.info? e = some i) (hz : i.zero = some z)
    (hsize : i.size = size) (hby : i.bytes = bytes) (hzs : z.cells.size = size) (hsz : 0 < size) (A : Option Addr) (n c : Nat) (news : List Value) (hl : news.length = n * size)
    (hA : 0 < n → ∃ g off, A = some ⟨g, off, none⟩ ∧ ∀ j u, news[j]? = some u → w.cell? ⟨g, off + j, none⟩ = some u) (h1 : ∀ u ∈ news, u.oneCell' = true) (hbytes : n * bytes ≤ 140737488355328) (hb0 : 0 < bytes) :
    ∃ v' w', (Builtin.append_ #[t, t] ty #[.slice none 0 0, .slice A n c]).run P w = .ok v' w' ∧ OwnR e size (newB w.heap.size) w' v' n news ∧ Below w.heap.size w w' := by
  by_cases hn : n = 0
  · subst hn
    have hnil : news = [] := List.length_eq_zero_iff.1 (by simpa using hl)
    subst hnil
    exact ⟨_, _, run_append_none t ty e i ht hi A c, OwnR.nil _ _ _ _, Below.refl _ _⟩
  · obtain ⟨g, off, rfl, hc⟩ := hA (Nat.pos_of_ne_zero hn)
    have hnl : n ≤ 140737488355328 := Nat.le_trans (Nat.le_mul_of_pos_right _ hb0) hbytes
    obtain ⟨v', w', hr, hown, hg, _, hat⟩ := run_append_own_at (P := P) w 0 t ty e i z size bytes ht hi hz hsize hby hzs hsz (.slice none 0 0) 0 [] (World.ownsRow_nil _ _ _ _) ⟨g, off, none⟩ n c news hl
      (fun j u hj => by have := hc j u hj; unfold Addr.add; split <;> simp_all) h1 (by unfold maxLen; omega) (by simpa using hbytes) (Nat.zero_le _)
    rw [Nat.zero_add, List.nil_append] at hown
    refine ⟨v', w', hr, ⟨hown, fun k hk => ?_⟩, below_of_grown (by simpa [Value.ownBlock] using hg)⟩
    rcases hat with hat | hat
    · rw [hat] at hk; simp [Value.ownBlock] at hk
    · rw [hat] at hk
      injection hk with hk
      exact Nat.le_of_eq hk
theorem wpList_append_nil {P : Program} {w : World} {ops : Array Oper} {rest : List Oper} {o : Oper} {a : Act} {Q : Exit → Act → World → Prop} (hgd : o.guard = none) (s x : Operand) (t : TypeId)
    (ho : o.op = .call { callee := .builtin .append, args := #[s, x], argTypes := #[t, t] })
    {e : TypeId} {z : Value} {size bytes : Nat} (hinfo : (P.info? e).map (fun i => (i.zero, i.size, i.bytes)) = some (some z, size, bytes)) (ht : P.underlying t = some (.slice e))
    (hzs : z.cells.size = size) (hsz : 0 < size) (hb0 : 0 < bytes) (hs : a.eval s = .slice none 0 0) (A : Option Addr) (n c : Nat) (news : List Value) (hx : a.eval x = .slice A n c) (hl : news.length = n * size)
    (hA : 0 < n → ∃ g off, A = some ⟨g, off, none⟩ ∧ ∀ j u, news[j]? = some u → w.cell? ⟨g, off + j, none⟩ = some u) (h1 : ∀ u ∈ news, u.oneCell' = true) (hbytes : n * bytes ≤ 140737488355328)
    (h : ∀ v' w', OwnR e size (newB w.heap.size) w' v' n news → Below w.heap.size w w' → wpList P ops Q rest (a.put o.dst v') w') : wpList P ops Q (o :: rest) a w := by
  obtain ⟨i, hi, hz0, hz1, hz2⟩ := info_parts hinfo
  refine wpList_plain hgd fun K hK => ?_
  obtain ⟨v', w', hr, ho', hb⟩ := run_append_nil (P := P) (w := w) t o.type e i z size bytes ht hi hz0 hz1 hz2 (by rw [← hzs]) hsz A n c news hl hA h1 hbytes hb0
  unfold Oper.wp
  simp only [execOp, ho, resolve, invoke, builtin, Sem.run_bind, Sem.run_pure, Result.andThen_ok, List.map_toArray, List.map_cons, List.map_nil, hs, hx, hr]
  exact hK _ _ (h v' w' ho' hb)
end Go.Proofs.YtlnhhffhmeekoaaGreatDoor
namespace Go.Proofs.YtlnhhffhmeekoaaGreatDoor

/-- are the fields that a kind does not use zero, and the others as they may be? -/
def plainS (kind n : Int) (s : List UInt8) (nl nk : Nat) : Bool :=
  if kind = 0 then decide (n = 0) && (s.isEmpty && (nl == 0 && nk == 0))
  else if kind = 1 then (decide (n = 0) || decide (n = 1)) && (s.isEmpty && (nl == 0 && nk == 0))
  else if kind = 2 then s.isEmpty && (nl == 0 && nk == 0)
  else if kind = 3 then decide (n = 0) && (nl == 0 && nk == 0)
  else if kind = 4 then decide (n = 0) && (s.isEmpty && nk == 0)
  else if kind = 5 then decide (n = 0) && (s.isEmpty && nk == nl)
  else false
def keyOK (p : Option (List UInt8)) (k : List UInt8) : Bool := decide (k.length ≤ 32) && (match p with | none => true | some q => Op.bytesLess q k)
mutual
/-- how heavy a value is, within so many others, behind so much; none: it is not right -/
def wS (around sofar : Nat) : V → Option Nat
  | .mk kind n s l k => if plainS kind n s l.length k.length = true ∧ around < 8 ∧ sofar + 1 + s.length ≤ 2048 then wL around (kind == 5) none (sofar + 1 + s.length) l k else none
def wL (around : Nat) (r : Bool) (p : Option (List UInt8)) (w : Nat) : List V → List (List UInt8) → Option Nat
  | [], _ => some w
  | x :: l, ks =>
    if r = true then
      match ks with
      | [] => none
      | k :: ks' => if keyOK p k = true then
          match wS (around + 1) (w + 1 + k.length) x with
          | some w' => wL around r (some k) w' l ks'
          | none => none
        else none
    else
      match wS (around + 1) w x with
      | some w' => wL around r none w' l ks
      | none => none
end
def rightB (x : V) : Bool := (wS 0 0 x).isSome
mutual
theorem wS_bound {around sofar : Nat} : ∀ {x : V} {w : Nat}, wS around sofar x = some w → sofar < w ∧ w ≤ 2048
  | .mk kind n s l k, w, h => by
    unfold wS at h
    split at h
    · rename_i hc
      have := wL_bound h (by omega)
      omega
    · cases h
theorem wL_bound {around : Nat} {r : Bool} : ∀ {l : List V} {p : Option (List UInt8)} {w : Nat} {ks : List (List UInt8)} {w' : Nat}, wL around r p w l ks = some w' → w ≤ 2048 → w ≤ w' ∧ w' ≤ 2048
  | [], p, w, ks, w', h, hw => by
    unfold wL at h
    injection h with h
    omega
  | x :: l, p, w, ks, w', h, hw => by
    unfold wL at h
    split at h
    · split at h
      · cases h
      · split at h
        · split at h
          · rename_i w1 h1
            have h2 := wS_bound h1
            have h3 := wL_bound h h2.2
            omega
          · cases h
        · cases h
    · split at h
      · rename_i w1 h1
        have h2 := wS_bound h1
        have h3 := wL_bound h h2.2
        omega
      · cases h
end
theorem wS_eq (around sofar : Nat) (x : V) : wS around sofar x = if plainS x.kind x.num x.str x.parts.length x.keys.length = true ∧ around < 8 ∧ sofar + 1 + x.str.length ≤ 2048 then wL around (x.kind == 5) none (sofar + 1 + x.str.length) x.parts x.keys else none := by
  cases x
  rw [wS]
  rfl
theorem wL_nil (around : Nat) (r : Bool) (p : Option (List UInt8)) (w : Nat) (ks : List (List UInt8)) : wL around r p w [] ks = some w := by rw [wL]
theorem wL_rec {around : Nat} {p : Option (List UInt8)} {w : Nat} {x : V} {l : List V} {k : List UInt8} {ks : List (List UInt8)} : wL around true p w (x :: l) (k :: ks) = if keyOK p k = true then (match wS (around + 1) (w + 1 + k.length) x with | some w' => wL around true (some k) w' l ks | none => none) else none := by
  rw [wL, if_pos rfl]
theorem wL_row {around : Nat} {p : Option (List UInt8)} {w : Nat} {x : V} {l : List V} {ks : List (List UInt8)} : wL around false p w (x :: l) ks = match wS (around + 1) w x with | some w' => wL around false none w' l ks | none => none := by
  rw [wL.eq_def]
  simp only [Bool.false_eq_true, if_false]
theorem wL_prev {around : Nat} {p q : Option (List UInt8)} {w : Nat} {l : List V} {ks : List (List UInt8)} : wL around false p w l ks = wL around false q w l ks := by
  cases l with
  | nil => rw [wL_nil, wL_nil]
  | cons x l => rw [wL_row, wL_row]

theorem wL_ks {around : Nat} : ∀ {l : List V} {p q : Option (List UInt8)} {w : Nat} {ks ks' : List (List UInt8)}, wL around false p w l ks = wL around false q w l ks'
  | [], p, q, w, ks, ks' => by rw [wL_nil, wL_nil]
  | x :: l, p, q, w, ks, ks' => by
    rw [wL_row, wL_row]
    split
    · exact wL_ks
    · rfl
theorem plainS_rec {n : Int} {s : List UInt8} {nl nk : Nat} (h : plainS 5 n s nl nk = true) : nk = nl := by
  simp [plainS] at h
  exact h.2.2

/-! the order of texts -/
theorem less_or (a : List UInt8) : ∀ b, Op.bytesLess a b = false → Op.bytesLess b a = true ∨ a = b := by
  induction a with
  | nil =>
    intro b h
    cases b with
    | nil => exact .inr rfl
    | cons y b => simp [Op.bytesLess] at h
  | cons x a ih =>
    intro b h
    cases b with
    | nil => left; simp [Op.bytesLess]
    | cons y b =>
      simp only [Op.bytesLess, Bool.or_eq_false_iff, Bool.and_eq_false_iff, decide_eq_false_iff_not, beq_eq_false_iff_ne, ne_eq] at h
      simp only [Op.bytesLess, Bool.or_eq_true, Bool.and_eq_true, decide_eq_true_eq, beq_iff_eq]
      obtain ⟨h1, h2⟩ := h
      by_cases hxy : x = y
      · subst hxy
        rcases h2 with h2 | h2
        · exact absurd rfl h2
        · rcases ih b h2 with h3 | h3
          · exact .inl (.inr ⟨rfl, h3⟩)
          · exact .inr (by rw [h3])
      · left
        left
        have h1' : ¬ x.toNat < y.toNat := fun h => h1 (UInt8.lt_iff_toNat_lt.2 h)
        have hne : x.toNat ≠ y.toNat := fun h => hxy (UInt8.toNat_inj.1 h)
        exact UInt8.lt_iff_toNat_lt.2 (by omega)
theorem less_irrefl (a : List UInt8) : Op.bytesLess a a = false := by
  induction a with
  | nil => rfl
  | cons x a ih => simp [Op.bytesLess, ih]
theorem less_asymm (a : List UInt8) : ∀ b, Op.bytesLess a b = true → Op.bytesLess b a = false := by
  induction a with
  | nil => intro b h; cases b <;> simp [Op.bytesLess] at *
  | cons x a ih =>
    intro b h
    cases b with
    | nil => simp [Op.bytesLess] at h
    | cons y b =>
      simp only [Op.bytesLess, Bool.or_eq_true, Bool.and_eq_true, decide_eq_true_eq, beq_iff_eq] at h
      simp only [Op.bytesLess, Bool.or_eq_false_iff, Bool.and_eq_false_iff, decide_eq_false_iff_not, beq_eq_false_iff_ne, ne_eq]
      rcases h with h | ⟨h1, h2⟩
      · have := UInt8.lt_iff_toNat_lt.1 h
        refine ⟨fun h' => by have := UInt8.lt_iff_toNat_lt.1 h'; omega, .inl fun h' => ?_⟩
        subst h'
        omega
      · subst h1
        refine ⟨fun h' => by have := UInt8.lt_iff_toNat_lt.1 h'; omega, .inr (ih b h2)⟩
/-- 'b <= a' is 'not a < b' -/
theorem leq_not_less (a b : List UInt8) : (Op.bytesLess b a || b == a) = !Op.bytesLess a b := by
  cases h : Op.bytesLess a b with
  | true =>
    have h1 := less_asymm a b h
    rw [h1]
    simp only [Bool.not_true, Bool.false_or, beq_eq_false_iff_ne, ne_eq]
    rintro rfl
    rw [less_irrefl] at h
    cases h
  | false =>
    rcases less_or a b h with h1 | h1
    · simp [h1]
    · subst h1; simp
end Go.Proofs.YtlnhhffhmeekoaaGreatDoor
namespace Go.Proofs.YtlnhhffhmeekoaaGreatDoor
open Go.RowKit

/-! its blocks are there -/
theorem Five.lt {w : World} {g o : Nat} {v : Value} (h : Five w g o v) : g < w.heap.size := by
  obtain ⟨c0, c1, c2, c3, c4, hv, h0, _⟩ := h
  exact World.block_lt_of_cell? w _ h0
mutual
theorem RdV.lt {ok : Nat → Prop} {w : World} : ∀ {v : Value} {x : V}, RdV ok w v x → RdV (fun b => ok b ∧ b < w.heap.size) w v x
  | v, .mk kind n s l k, h => by
    unfold RdV at h ⊢
    obtain ⟨h1, h2, h3, lv, kv, h4, h5, h6, h7⟩ := h
    refine ⟨h1, h2, h3, lv, kv, h4, h5, RdVs.lt h6, h7.1, fun i hi => ?_⟩
    obtain ⟨g, o, q1, q2, q3⟩ := h7.2 i hi
    exact ⟨g, o, q1.mono fun hg => ⟨hg, World.block_lt_of_cell? w _ q2⟩, q2, q3⟩
theorem RdVs.lt {ok : Nat → Prop} {w : World} : ∀ {lv : Value} {i : Nat} {l : List V}, RdVs ok w lv i l → RdVs (fun b => ok b ∧ b < w.heap.size) w lv i l
  | lv, i, [], h => by unfold RdVs; trivial
  | lv, i, x :: l, h => by
    unfold RdVs at h ⊢
    obtain ⟨⟨g, o, v, h1, h2, h3⟩, h4⟩ := h
    exact ⟨⟨g, o, v, h1.mono fun hg => ⟨hg, h2.lt⟩, h2, RdV.lt h3⟩, RdVs.lt h4⟩
end
end Go.Proofs.YtlnhhffhmeekoaaGreatDoor
