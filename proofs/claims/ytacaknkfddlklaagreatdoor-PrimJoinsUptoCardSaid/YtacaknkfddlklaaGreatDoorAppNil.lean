/- append(nil, l...): the elements in new memory; make([]T, n). No function of the program is named here. -/
import Derived.Test.YtacaknkfddlklaaGreatDoorAns
import Derived.Laws.MakeOwn
set_option linter.unusedVariables false
set_option linter.unusedSimpArgs false
namespace Go.Proofs.YtacaknkfddlklaaGreatDoor
open Go.RowKit

theorem below_of_grown {w w' : World} (h : w.grownBy w' none) : Below w.heap.size w w' :=
  ⟨h.os, h.tape, h.output, h.size, fun k hk => h.block k hk (by simp)⟩
theorem run_append_none {P : Program} {w : World} (t ty e : TypeId) (i : TypeInfo) (ht : P.underlying t = some (.slice e)) (hi : P.info? e = some i) (A : Option Addr) (c : Nat) :
    (Builtin.append_ #[t, t] ty #[.slice none 0 0, .slice A 0 c]).run P w = .ok (.slice none 0 0) w := by
  cases A <;> simp [Builtin.append_, run_underlying ht, sizeOf, typeInfo, hi, Builtin.lenOf, Builtin.firstCells, go_sem]
theorem run_append_nil {P : Program} {w : World} (t ty e : TypeId) (i : TypeInfo) (z : Value) (size bytes : Nat) (ht : P.underlying t = some (.slice e)) (hi : P.info? e = some i) (hz : i.zero = some z)
    (hsize : i.size = size) (hby : i.bytes = bytes) (hzs : z.cells.size = size) (hsz : 0 < size) (A : Option Addr) (n c : Nat) (news : List Value) (hl : news.length = n * size)
    (hA : 0 < n → ∃ g off, A = some ⟨g, off, none⟩ ∧ ∀ j u, news[j]? = some u → w.cell? ⟨g, off + j, none⟩ = some u) (h1 : ∀ u ∈ news, u.oneCell' = true) (hbytes : n * bytes ≤ 140737488355328) (hb0 : 0 < bytes) :
    ∃ v' w', (Builtin.append_ #[t, t] ty #[.slice none 0 0, .slice A n c]).run P w = .ok v' w' ∧ OwnR e size (newB w.heap.size) w' v' n news ∧ Below w.heap.size w w' := by
  by_cases hn : n = 0
  · subst hn
    have hnil : news = [] := List.length_eq_zero_iff.1 (by simpa using hl)
    subst hnil
    exact ⟨_, _, run_append_none t ty e i ht hi A c, OwnR.nil _ _ _ _, Below.refl _ _⟩
  · obtain ⟨g, off, rfl, hc⟩ := hA (Nat.pos_of_ne_zero hn)
    have hnl : n ≤ 140737488355328 := Nat.le_trans (Nat.le_mul_of_pos_right _ hb0) hbytes
    obtain ⟨v', w', hr, hown, hg, _, hat⟩ := run_append_own_at (P := P) w 0 t ty e i z size bytes ht hi hz hsize hby hzs hsz (.slice none 0 0) 0 [] (World.ownsRow_nil _ _ _ _) ⟨g, off, none⟩ n c news hl
      (fun j u hj => by have := hc j u hj; unfold Addr.add; split <;> simp_all) h1 (by unfold maxLen; omega) (by simpa using hbytes) (Nat.zero_le _)
    rw [Nat.zero_add, List.nil_append] at hown
    refine ⟨v', w', hr, ⟨hown, fun k hk => ?_⟩, below_of_grown (by simpa [Value.ownBlock] using hg)⟩
    rcases hat with hat | hat
    · rw [hat] at hk; simp [Value.ownBlock] at hk
    · rw [hat] at hk
      injection hk with hk
      exact Nat.le_of_eq hk
theorem wpList_append_nil {P : Program} {w : World} {ops : Array Oper} {rest : List Oper} {o : Oper} {a : Act} {Q : Exit → Act → World → Prop} (hgd : o.guard = none) (s x : Operand) (t : TypeId)
    (ho : o.op = .call { callee := .builtin .append, args := #[s, x], argTypes := #[t, t] })
    {e : TypeId} {z : Value} {size bytes : Nat} (hinfo : (P.info? e).map (fun i => (i.zero, i.size, i.bytes)) = some (some z, size, bytes)) (ht : P.underlying t = some (.slice e))
    (hzs : z.cells.size = size) (hsz : 0 < size) (hb0 : 0 < bytes) (hs : a.eval s = .slice none 0 0) (A : Option Addr) (n c : Nat) (news : List Value) (hx : a.eval x = .slice A n c) (hl : news.length = n * size)
    (hA : 0 < n → ∃ g off, A = some ⟨g, off, none⟩ ∧ ∀ j u, news[j]? = some u → w.cell? ⟨g, off + j, none⟩ = some u) (h1 : ∀ u ∈ news, u.oneCell' = true) (hbytes : n * bytes ≤ 140737488355328)
    (h : ∀ v' w', OwnR e size (newB w.heap.size) w' v' n news → Below w.heap.size w w' → wpList P ops Q rest (a.put o.dst v') w') : wpList P ops Q (o :: rest) a w := by
  obtain ⟨i, hi, hz0, hz1, hz2⟩ := info_parts hinfo
  refine wpList_plain hgd fun K hK => ?_
  obtain ⟨v', w', hr, ho', hb⟩ := run_append_nil (P := P) (w := w) t o.type e i z size bytes ht hi hz0 hz1 hz2 (by rw [← hzs]) hsz A n c news hl hA h1 hbytes hb0
  unfold Oper.wp
  simp only [execOp, ho, resolve, invoke, builtin, Sem.run_bind, Sem.run_pure, Result.andThen_ok, List.map_toArray, List.map_cons, List.map_nil, hs, hx, hr]
  exact hK _ _ (h v' w' ho' hb)
end Go.Proofs.YtacaknkfddlklaaGreatDoor
