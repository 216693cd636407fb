/- The walk of LexReads: what came out is its owner's. -/
import Derived.Test.YtgnoiliaidfepaaDoorLexShown
import Derived.ArgAppend
set_option linter.unusedVariables false
set_option linter.unusedSimpArgs false
namespace Go.Proofs.YtgnoiliaidfepaaDoor
open Go.RowKit Go.IntWalk

/-- n elements of four cells at the head of a block, whatever they hold -/
def Full (w : World) (g n : Nat) : Prop := ∀ i, i < n * 4 → (∃ u, w.cell? ⟨g, i, none⟩ = some u) ∧ w.frozen? ⟨g, i, none⟩ = false
theorem Full.set {w : World} {g n : Nat} (h : Full w g n) (a : Addr) (v : Value) : Full (w.setCell a v) g n := by
  intro i hi
  obtain ⟨⟨u, hu⟩, hf⟩ := h i hi
  refine ⟨?_, by rw [World.frozen?_setCell]; exact hf⟩
  by_cases e : a = ⟨g, i, none⟩
  · subst e; exact ⟨v, World.cell?_setCell_same _ _ _ hu⟩
  · exact ⟨u, by rw [World.cell?_setCell_other _ _ _ _ e]; exact hu⟩
theorem Full.below {w w1 : World} {g n : Nat} (h : Full w g n) (hb : Below w.heap.size w w1) : Full w1 g n := by
  intro i hi
  obtain ⟨⟨u, hu⟩, hf⟩ := h i hi
  exact ⟨⟨u, bcell hb hu⟩, (World.frozen?_of_block (a := ⟨g, i, none⟩) (hb.block g (block_lt_cell hu))).trans hf⟩
theorem RdT.full {ok : Nat → Prop} {w : World} {v : Value} {l : List Tok} (h : RdT ok w v l) : (l = [] ∧ v = .slice none 0 0) ∨ ∃ g cap, v = .slice (some ⟨g, 0, none⟩) l.length cap ∧ ok g ∧ l.length ≤ cap ∧ cap ≤ maxLen ∧ Full w g l.length ∧ g < w.heap.size := by
  rcases h with h | ⟨g, cap, cur, rfl, ho, hb, hc, hs, hm, ht⟩
  · exact .inl h
  · refine .inr ⟨g, cap, rfl, ho, hc, hm, ?_, (Array.getElem?_eq_some_iff.1 hb).1⟩
    intro i hi
    have hi' : i < cur.size := by omega
    exact ⟨⟨cur[i], by simp [World.cell?, hb, hi']⟩, by simp [World.frozen?, hb]⟩
theorem Full.list {w : World} {g n : Nat} (h : Full w g n) : ∃ olds : List Value, olds.length = n * 4 ∧ ∀ j u, olds[j]? = some u → w.cell? ⟨g, j, none⟩ = some u := by
  refine ⟨(List.range (n * 4)).map fun i => (w.cell? ⟨g, i, none⟩).getD (.bool false), by simp, ?_⟩
  intro j u hj
  rw [List.getElem?_map] at hj
  by_cases hjn : j < n * 4
  · rw [List.getElem?_range hjn] at hj
    obtain ⟨⟨x, hx⟩, _⟩ := h j hjn
    simp [hx] at hj
    rw [hx, hj]
  · rw [List.getElem?_eq_none (by simpa using hjn)] at hj
    simp at hj
/-- what may be appended to: a full slice, or an own row -/
def App (ok : Nat → Prop) (w : World) (v : Value) (n : Nat) : Prop :=
  (∃ g, v = .slice (some ⟨g, 0, none⟩) n n ∧ g < w.heap.size ∧ Full w g n) ∨ ∃ cs, OwnR 41 4 ok w v n cs
theorem App.fr {ok ok' : Nat → Prop} {w w1 : World} {v : Value} {n : Nat} (h : App ok w v n) (hb : Below w.heap.size w w1) : App ok w1 v n := by
  rcases h with ⟨g, rfl, hg, hf⟩ | ⟨cs, ho⟩
  · exact .inl ⟨g, rfl, by have := hb.size; omega, hf.below hb⟩
  · exact .inr ⟨cs, OwnR.below ho hb⟩
theorem opA_append {o : Oper} {a : Act} {Q : Exit → Act → World → Prop} {K : Act → World → Prop} {W w0 : World} {ok : Nat → Prop} {n : Nat} (v : Value) (t : Value × Value × Value × Value)
    (s x : Operand) (ho : o.op = .call { callee := .builtin .append, args := #[s, x], argTypes := #[35, 35] })
    (cells : Array Value) (hc : cells = #[t.1, t.2.1, t.2.2.1, t.2.2.2]) (h1 : ∀ u ∈ cells.toList, u.oneCell' = true) (c : Nat) (hs : a.eval s = v) (hx : a.eval x = .slice (some ⟨W.heap.size, 0, none⟩) 1 c)
    (HA : App ok W v n) (HF : Fr ok w0 W) (hl : n ≤ 1000000) (hnew : ∀ k, W.heap.size ≤ k → ok k)
    (h : ∀ v1 w1, App ok w1 v1 (n + 1) → Fr ok w0 w1 → K (a.put o.dst v1) w1) :
    Oper.wp Tryd.prog o a (W.alloc (.cells cells 41)) K Q := by
  rcases HA with ⟨g, rfl, hg, hf⟩ | ⟨cs, HO⟩
  · obtain ⟨i0, hi, hz0, hz1, hz2⟩ := info_parts Tryd.infoTok
    have hb : Below W.heap.size W (W.alloc (.cells cells 41)) := (Below.refl _ _).alloc (Nat.le_refl _) _
    obtain ⟨olds, hlo, holds⟩ := (hf.below hb).list
    obtain ⟨v1, w1, hr, hown, hgr⟩ := run_append_arg_grows (P := Tryd.prog) (W.alloc (.cells cells 41)) 35 o.type 41 i0 _ 4 40 Tryd.underlying35 hi hz0 hz1 hz2 rfl (by omega)
      ⟨g, 0, none⟩ n n olds hlo (fun j u hj => by rw [add_zero_off]; exact holds j u hj) ⟨W.heap.size, 0, none⟩ 1 c [t.1, t.2.1, t.2.2.1, t.2.2.2] rfl
      (World.news_of_block (cs := #[t.1, t.2.1, t.2.2.1, t.2.2.2]) (t := 41) (fr := (0, 0)) (by rw [hc]; exact Go.heap_alloc_new W _)) (by omega) (by unfold maxLen; omega) (by omega)
    unfold Oper.wp execOp
    simp only [ho, resolve, invoke, builtin, Sem.run_bind, Sem.run_pure, Result.andThen_ok, List.map_toArray, List.map_cons, List.map_nil, hs, hx, hr]
    have hgr' : W.grownBy w1 none := ⟨hgr.os, hgr.tape, hgr.output, Nat.le_trans (size_alloc_le _ _) hgr.size, fun k hk hne => (hgr.block k (by simp; omega) hne).trans (Below.heap_alloc W _ k hk)⟩
    refine h v1 w1 (.inr ⟨_, ⟨⟨hown.1, hown.2.imp id fun ⟨g, cap, cur, e1, e2, r⟩ => ⟨g, cap, cur, e1, Nat.zero_le _, r⟩⟩, fun k hk => ?_⟩⟩) (HF.grown hgr' (fun k hk => by cases hk))
    have := hown.lt k hk
    exact hnew k (by have := this.1; rw [World.size_alloc] at this; omega)
  · refine opR_append 35 1 [t.1, t.2.1, t.2.2.1, t.2.2.2] Tryd.infoTok rfl (by omega) (by omega) Tryd.underlying35 s x ho cells hc c hs hx rfl (fun u hu => h1 u (by rw [hc]; exact hu)) HO (by omega) hnew ?_
    intro v1 w1 h1 h2 h3
    exact h v1 w1 (.inr ⟨_, h1⟩) (h3 ok w0 HF HO.blk)
theorem wpA_append {ops : Array Oper} {rest : List Oper} {o : Oper} {a : Act} {Q : Exit → Act → World → Prop} {W w0 : World} {ok : Nat → Prop} {n : Nat} (v : Value) (t : Value × Value × Value × Value)
    (s x : Operand) (hgd : o.guard = none) (ho : o.op = .call { callee := .builtin .append, args := #[s, x], argTypes := #[35, 35] })
    (cells : Array Value) (hc : cells = #[t.1, t.2.1, t.2.2.1, t.2.2.2]) (h1 : ∀ u ∈ cells.toList, u.oneCell' = true) (c : Nat) (hs : a.eval s = v) (hx : a.eval x = .slice (some ⟨W.heap.size, 0, none⟩) 1 c)
    (HA : App ok W v n) (HF : Fr ok w0 W) (hl : n ≤ 1000000) (hnew : ∀ k, W.heap.size ≤ k → ok k)
    (h : ∀ v1 w1, App ok w1 v1 (n + 1) → Fr ok w0 w1 → wpList Tryd.prog ops Q rest (a.put o.dst v1) w1) :
    wpList Tryd.prog ops Q (o :: rest) a (W.alloc (.cells cells 41)) :=
  wpList_plain hgd fun K hK => opA_append v t s x ho cells hc h1 c hs hx HA HF hl hnew fun v1 w1 h1 h2 => hK _ _ (h v1 w1 h1 h2)
end Go.Proofs.YtgnoiliaidfepaaDoor
