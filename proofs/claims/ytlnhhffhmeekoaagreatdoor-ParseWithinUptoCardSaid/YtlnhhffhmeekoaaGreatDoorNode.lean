/- Nodes of a tree (api.Node): what one is, and that a value of the model reads as one. No function of the program is named here. -/
import Derived.Test.YtlnhhffhmeekoaaGreatDoorValB
set_option linter.unusedVariables false
set_option linter.unusedSimpArgs false
namespace Go.Proofs.YtlnhhffhmeekoaaGreatDoor
open Go.RowKit

/-- a node: its kind, text, value, flag, kids, place -/
inductive N where
  | mk (kind : Int) (text : List UInt8) (val : V) (flag : Bool) (kids : List N) (spot : Int)
def N.kind : N → Int | .mk a _ _ _ _ _ => a
def N.text : N → List UInt8 | .mk _ a _ _ _ _ => a
def N.val : N → V | .mk _ _ a _ _ _ => a
def N.flag : N → Bool | .mk _ _ _ a _ _ => a
def N.kids : N → List N | .mk _ _ _ _ a _ => a
def N.spot : N → Int | .mk _ _ _ _ _ a => a
/-- cells in a row -/
def CellsAt (w : World) (g o : Nat) (cs : List Value) : Prop := ∀ j u, cs[j]? = some u → w.cell? ⟨g, o + j, none⟩ = some u
mutual
/-- the value of the model reads as n; its blocks are among 'ok' -/
def RdN (ok : Nat → Prop) (w : World) (v : Value) : N → Prop
  | .mk k t x f l a => i64ok k ∧ i64ok a ∧ t.length ≤ 16777216 ∧ ∃ c0 c1 c2 c3 c4 lv, v = .agg #[.int .i64 k, .string ⟨t.toArray⟩, c0, c1, c2, c3, c4, .bool f, lv, .int .i64 a] ∧ RdV ok w (.agg #[c0, c1, c2, c3, c4]) x ∧ SlForm lv l.length ∧ RdNs ok w lv 0 l
def RdNs (ok : Nat → Prop) (w : World) (lv : Value) (i : Nat) : List N → Prop
  | [] => True
  | n :: l => (∃ g o cs, SlAt ok lv 10 i g o ∧ cs.length = 10 ∧ CellsAt w g o cs ∧ RdN ok w (.agg cs.toArray) n) ∧ RdNs ok w lv (i + 1) l
end
theorem CellsAt.below {w w1 : World} {g o : Nat} {cs : List Value} (h : CellsAt w g o cs) (hb : Below w.heap.size w w1) : CellsAt w1 g o cs := fun j u hj => bcell hb (h j u hj)
theorem CellsAt.fr {ok' : Nat → Prop} {w w1 : World} {g o : Nat} {cs : List Value} (h : CellsAt w g o cs) (hf : Fr ok' w w1) (hn : g < w.heap.size → ¬ ok' g) : CellsAt w1 g o cs := fun j u hj => by
  have h1 := h j u hj
  exact hf.cell h1 (hn (World.block_lt_of_cell? w _ h1))
theorem CellsAt.lt {w : World} {g o : Nat} {cs : List Value} (h : CellsAt w g o cs) (hl : 0 < cs.length) : g < w.heap.size := World.block_lt_of_cell? w _ (h 0 cs[0] (List.getElem?_eq_getElem hl))
mutual
theorem RdN.below {ok : Nat → Prop} {w w1 : World} (hb : Below w.heap.size w w1) : ∀ {v : Value} {n : N}, RdN ok w v n → RdN ok w1 v n
  | v, .mk k t x f l a, h => by
    unfold RdN at h ⊢
    obtain ⟨h1, h2, h3, c0, c1, c2, c3, c4, lv, h4, h5, h6, h7⟩ := h
    exact ⟨h1, h2, h3, c0, c1, c2, c3, c4, lv, h4, h5.below hb, h6, RdNs.below hb h7⟩
theorem RdNs.below {ok : Nat → Prop} {w w1 : World} (hb : Below w.heap.size w w1) : ∀ {lv : Value} {i : Nat} {l : List N}, RdNs ok w lv i l → RdNs ok w1 lv i l
  | lv, i, [], h => by unfold RdNs; trivial
  | lv, i, x :: l, h => by
    unfold RdNs at h ⊢
    obtain ⟨⟨g, o, cs, h1, h2, h3, h4⟩, h5⟩ := h
    exact ⟨⟨g, o, cs, h1, h2, h3.below hb, RdN.below hb h4⟩, RdNs.below hb h5⟩
end
mutual
theorem RdN.fr {ok ok' : Nat → Prop} {w w1 : World} (hf : Fr ok' w w1) (hn : ∀ b, b < w.heap.size → ok b → ¬ ok' b) : ∀ {v : Value} {n : N}, RdN ok w v n → RdN ok w1 v n
  | v, .mk k t x f l a, h => by
    unfold RdN at h ⊢
    obtain ⟨h1, h2, h3, c0, c1, c2, c3, c4, lv, h4, h5, h6, h7⟩ := h
    exact ⟨h1, h2, h3, c0, c1, c2, c3, c4, lv, h4, h5.fr hf hn, h6, RdNs.fr hf hn h7⟩
theorem RdNs.fr {ok ok' : Nat → Prop} {w w1 : World} (hf : Fr ok' w w1) (hn : ∀ b, b < w.heap.size → ok b → ¬ ok' b) : ∀ {lv : Value} {i : Nat} {l : List N}, RdNs ok w lv i l → RdNs ok w1 lv i l
  | lv, i, [], h => by unfold RdNs; trivial
  | lv, i, x :: l, h => by
    unfold RdNs at h ⊢
    obtain ⟨⟨g, o, cs, h1, h2, h3, h4⟩, h5⟩ := h
    exact ⟨⟨g, o, cs, h1, h2, h3.fr hf (fun hg => hn g hg h1.okay), RdN.fr hf hn h4⟩, RdNs.fr hf hn h5⟩
end
mutual
theorem RdN.imp {ok ok' : Nat → Prop} {w : World} (hk : ∀ b, ok b → ok' b) : ∀ {v : Value} {n : N}, RdN ok w v n → RdN ok' w v n
  | v, .mk k t x f l a, h => by
    unfold RdN at h ⊢
    obtain ⟨h1, h2, h3, c0, c1, c2, c3, c4, lv, h4, h5, h6, h7⟩ := h
    exact ⟨h1, h2, h3, c0, c1, c2, c3, c4, lv, h4, h5.imp hk, h6, RdNs.imp hk h7⟩
theorem RdNs.imp {ok ok' : Nat → Prop} {w : World} (hk : ∀ b, ok b → ok' b) : ∀ {lv : Value} {i : Nat} {l : List N}, RdNs ok w lv i l → RdNs ok' w lv i l
  | lv, i, [], h => by unfold RdNs; trivial
  | lv, i, x :: l, h => by
    unfold RdNs at h ⊢
    obtain ⟨⟨g, o, cs, h1, h2, h3, h4⟩, h5⟩ := h
    exact ⟨⟨g, o, cs, h1.mono (hk g), h2, h3, RdN.imp hk h4⟩, RdNs.imp hk h5⟩
end
mutual
theorem RdN.lt {ok : Nat → Prop} {w : World} : ∀ {v : Value} {n : N}, RdN ok w v n → RdN (fun b => ok b ∧ b < w.heap.size) w v n
  | v, .mk k t x f l a, h => by
    unfold RdN at h ⊢
    obtain ⟨h1, h2, h3, c0, c1, c2, c3, c4, lv, h4, h5, h6, h7⟩ := h
    exact ⟨h1, h2, h3, c0, c1, c2, c3, c4, lv, h4, h5.lt, h6, RdNs.lt h7⟩
theorem RdNs.lt {ok : Nat → Prop} {w : World} : ∀ {lv : Value} {i : Nat} {l : List N}, RdNs ok w lv i l → RdNs (fun b => ok b ∧ b < w.heap.size) w lv i l
  | lv, i, [], h => by unfold RdNs; trivial
  | lv, i, x :: l, h => by
    unfold RdNs at h ⊢
    obtain ⟨⟨g, o, cs, h1, h2, h3, h4⟩, h5⟩ := h
    have hg := h3.lt (by omega)
    exact ⟨⟨g, o, cs, h1.mono fun hk => ⟨hk, hg⟩, h2, h3, RdN.lt h4⟩, RdNs.lt h5⟩
end
theorem RdNs.get {ok : Nat → Prop} {w : World} {lv : Value} : ∀ {l : List N} {i : Nat}, RdNs ok w lv i l → ∀ j (h : j < l.length), ∃ g o cs, SlAt ok lv 10 (i + j) g o ∧ cs.length = 10 ∧ CellsAt w g o cs ∧ RdN ok w (.agg cs.toArray) l[j]
  | [], i, h, j, hj => by simp at hj
  | x :: l, i, h, j, hj => by
    unfold RdNs at h
    cases j with
    | zero => exact h.1
    | succ j =>
      obtain ⟨g, o, cs, h1, h2⟩ := RdNs.get h.2 j (by simpa using hj)
      exact ⟨g, o, cs, by rw [show i + (j + 1) = i + 1 + j by omega]; exact h1, h2⟩
theorem RdNs.mk {ok : Nat → Prop} {w : World} {lv : Value} : ∀ {l : List N} {i : Nat}, (∀ j (h : j < l.length), ∃ g o cs, SlAt ok lv 10 (i + j) g o ∧ cs.length = 10 ∧ CellsAt w g o cs ∧ RdN ok w (.agg cs.toArray) l[j]) → RdNs ok w lv i l
  | [], i, h => by unfold RdNs; trivial
  | x :: l, i, h => by
    unfold RdNs
    refine ⟨h 0 (by simp), RdNs.mk fun j hj => ?_⟩
    have := h (j + 1) (by simpa using hj)
    rw [show i + (j + 1) = i + 1 + j by omega] at this
    exact this
/-- a node as it stands -/
abbrev valN (n : N) (A : Option Addr) (c : Nat) (B : Option Addr) (d : Nat) (K : Option Addr) (e : Nat) : Value :=
  .agg #[.int .i64 n.kind, .string ⟨n.text.toArray⟩, .int .i64 n.val.kind, .int .i64 n.val.num, .string ⟨n.val.str.toArray⟩, .slice A n.val.parts.length c, .slice B n.val.keys.length d, .bool n.flag, .slice K n.kids.length e, .int .i64 n.spot]
/-- what a node's reading tells -/
structure NodeRd (ok : Nat → Prop) (w : World) (n : N) (A : Option Addr) (c : Nat) (B : Option Addr) (d : Nat) (K : Option Addr) (e : Nat) : Prop where
  kind : i64ok n.kind
  spot : i64ok n.spot
  text : n.text.length ≤ 16777216
  val : RdV ok w (valV n.val A c B d) n.val
  kids : RdNs ok w (.slice K n.kids.length e) 0 n.kids
  cap : n.kids.length ≤ e
  most : e ≤ 9223372036854775807
  len : n.kids.length ≤ 16777216
theorem RdN.form {ok : Nat → Prop} {w : World} {v : Value} {n : N} (h : RdN ok w v n) : ∃ A c B d K e, v = valN n A c B d K e ∧ NodeRd ok w n A c B d K e := by
  cases n with
  | mk k t x f l a =>
    unfold RdN at h
    obtain ⟨h1, h2, h3, c0, c1, c2, c3, c4, lv, rfl, h5, ⟨K, e, rfl, h6, h7, h8⟩, h9⟩ := h
    have h5' := h5
    obtain ⟨A, c, B, d, hv, _⟩ := h5.form
    injection hv with hv
    simp only [Array.mk.injEq, List.cons.injEq, and_true] at hv
    obtain ⟨rfl, rfl, rfl, rfl, rfl⟩ := hv
    exact ⟨A, c, B, d, K, e, rfl, h1, h2, h3, h5', h9, h6, h7, h8⟩
theorem NodeRd.rd {ok : Nat → Prop} {w : World} {n : N} {A B K : Option Addr} {c d e : Nat} (h : NodeRd ok w n A c B d K e) : RdN ok w (valN n A c B d K e) n := by
  cases n with
  | mk k t x f l a =>
    unfold RdN
    exact ⟨h.kind, h.spot, h.text, _, _, _, _, _, _, rfl, h.val, ⟨K, e, rfl, h.cap, h.most, h.len⟩, h.kids⟩
/-- kid j of a slice of nodes -/
theorem RdNs.elem {ok : Nat → Prop} {w : World} {K : Option Addr} {m e : Nat} {l : List N} (h : RdNs ok w (.slice K m e) 0 l) (j : Nat) (hj : j < l.length) :
    ∃ g off A c B d K' e', K = some ⟨g, off, none⟩ ∧ ok g ∧ NodeRd ok w l[j] A c B d K' e' ∧
      w.cell? ⟨g, off + j * 10, none⟩ = some (.int .i64 l[j].kind) ∧ w.cell? ⟨g, off + j * 10 + 1, none⟩ = some (.string ⟨l[j].text.toArray⟩) ∧
      w.cell? ⟨g, off + j * 10 + 2, none⟩ = some (.int .i64 l[j].val.kind) ∧ w.cell? ⟨g, off + j * 10 + 3, none⟩ = some (.int .i64 l[j].val.num) ∧ w.cell? ⟨g, off + j * 10 + 4, none⟩ = some (.string ⟨l[j].val.str.toArray⟩) ∧
      w.cell? ⟨g, off + j * 10 + 5, none⟩ = some (.slice A l[j].val.parts.length c) ∧ w.cell? ⟨g, off + j * 10 + 6, none⟩ = some (.slice B l[j].val.keys.length d) ∧ w.cell? ⟨g, off + j * 10 + 7, none⟩ = some (.bool l[j].flag) ∧
      w.cell? ⟨g, off + j * 10 + 8, none⟩ = some (.slice K' l[j].kids.length e') ∧ w.cell? ⟨g, off + j * 10 + 9, none⟩ = some (.int .i64 l[j].spot) := by
  obtain ⟨g, o, cs, ⟨off, nn, cc, hv, ho, hg⟩, hl, hc, hr⟩ := h.get j hj
  injection hv with h1 _ _
  subst h1
  rw [Nat.zero_add] at ho
  subst ho
  obtain ⟨A, c, B, d, K', e', hf, hn⟩ := hr.form
  injection hf with hf
  have hcs : cs = [.int .i64 l[j].kind, .string ⟨l[j].text.toArray⟩, .int .i64 l[j].val.kind, .int .i64 l[j].val.num, .string ⟨l[j].val.str.toArray⟩, .slice A l[j].val.parts.length c, .slice B l[j].val.keys.length d, .bool l[j].flag, .slice K' l[j].kids.length e', .int .i64 l[j].spot] := by
    have := congrArg Array.toList hf
    simpa using this
  subst hcs
  exact ⟨g, off, A, c, B, d, K', e', rfl, hg, hn, hc 0 _ rfl, hc 1 _ rfl, hc 2 _ rfl, hc 3 _ rfl, hc 4 _ rfl, hc 5 _ rfl, hc 6 _ rfl, hc 7 _ rfl, hc 8 _ rfl, hc 9 _ rfl⟩
theorem N.sz_kid {n : N} {i : Nat} (h : i < n.kids.length) : SizeOf.sizeOf n.kids[i] < SizeOf.sizeOf n := by
  cases n with
  | mk k t x f l a =>
    have h1 : SizeOf.sizeOf l[i] < SizeOf.sizeOf l := List.sizeOf_lt_of_mem (List.getElem_mem _)
    simp only [N.kids, N.mk.sizeOf_spec]
    omega
end Go.Proofs.YtlnhhffhmeekoaaGreatDoor
