/- Rows of values, keys, nodes as cells: appended, owned. No function of the program is named here. -/
import Derived.Test.YthlfeiiolafonaaDoorNodeOpen
import Derived.Deep.DeepCutAuto
import Derived.Deep.RegionLaw
set_option linter.unusedVariables false
set_option linter.unusedSimpArgs false
namespace Go.Proofs.YthlfeiiolafonaaDoor
open Go.RowKit

theorem infoStr : (Tryd.prog.info? 9).map (fun i => (i.zero, i.size, i.bytes)) = some (some (.string ⟨#[]⟩), 1, 16) := by kernel_rfl
theorem infoVal : (Tryd.prog.info? 25).map (fun i => (i.zero, i.size, i.bytes)) = some (some (.agg #[.int .i64 0, .int .i64 0, .string ⟨#[]⟩, .slice none 0 0, .slice none 0 0]), 5, 80) := by kernel_rfl
/-- the cells of keys -/
def kvals (k : List (List UInt8)) : List Value := k.map fun s => .string ⟨s.toArray⟩
theorem kvals_len (k : List (List UInt8)) : (kvals k).length = k.length * 1 := by simp [kvals]
theorem kvals_one (k : List (List UInt8)) : ∀ u ∈ kvals k, u.oneCell' = true := by
  intro u hu
  simp only [kvals, List.mem_map] at hu
  obtain ⟨_, _, rfl⟩ := hu
  rfl
/-- a row of keys that a call owns reads as them -/
theorem RdK.own {ok : Nat → Prop} {w : World} {v : Value} {k : List (List UInt8)} (h : OwnR 9 1 ok w v k.length (kvals k)) (hl : k.length ≤ 16777216) (hs : ∀ i (hi : i < k.length), (k[i]).length ≤ 16777216) : RdK ok w v k := by
  obtain ⟨A, c, rfl, hc⟩ := h.slice
  have hcm : c ≤ 9223372036854775807 := by
    rcases h.row.2 with ⟨he, _⟩ | ⟨g, cap, cur, he, _, _, _, hm, _⟩
    · injection he with _ _ h3; omega
    · injection he with _ _ h3; unfold maxLen at hm; omega
  refine ⟨⟨A, c, rfl, hc, hcm, hl⟩, fun i hi => ?_⟩
  obtain ⟨g, cap, hv, hk, _, hcell⟩ := h.form (Nat.lt_of_le_of_lt (Nat.zero_le _) hi)
  injection hv with h1 h2 h3
  subst h1
  refine ⟨g, i, ⟨0, _, _, rfl, by omega, hk⟩, hcell i _ ?_, hs i hi⟩
  simp [kvals, List.getElem?_eq_getElem hi]
/-- a row of keys: its cells -/
theorem RdK.news {ok : Nat → Prop} {w : World} {A : Option Addr} {n c : Nat} {k : List (List UInt8)} (h : RdK ok w (.slice A n c) k) : 0 < k.length → ∃ g off, A = some ⟨g, off, none⟩ ∧ ∀ j u, (kvals k)[j]? = some u → w.cell? ⟨g, off + j, none⟩ = some u := by
  intro h0
  obtain ⟨g, off, hA, _, _⟩ := h.elem 0 h0
  refine ⟨g, off, hA, fun j u hj => ?_⟩
  simp only [kvals, List.getElem?_map, Option.map_eq_some_iff] at hj
  obtain ⟨s, hs, rfl⟩ := hj
  obtain ⟨hlt, hs'⟩ := List.getElem?_eq_some_iff.1 hs
  obtain ⟨g', off', hA', _, hc, _⟩ := h.elem j hlt
  rw [hA] at hA'
  injection hA' with hA'
  injection hA' with h1 h2
  subst h1 h2
  rw [hc, hs']
theorem sc_other {w : World} {g o g' p : Nat} {v : Value} (h : g ≠ g' ∨ o ≠ p) : (w.setCell ⟨g, o, none⟩ v).cell? ⟨g', p, none⟩ = w.cell? ⟨g', p, none⟩ :=
  World.cell?_setCell_other (h := fun e => by injection e with h1 h2; rcases h with h | h <;> omega) ..
theorem sc_same {w : World} {a : Addr} {u v : Value} (h : w.cell? a = some u) : (w.setCell a v).cell? a = some v := World.cell?_setCell_same (h := h) ..
theorem frozen_below {w1 w2 : World} {g : Nat} (hb : Below w1.heap.size w1 w2) (hg : g < w1.heap.size) (hf : ∀ i, w1.frozen? ⟨g, i, none⟩ = false) : ∀ i, w2.frozen? ⟨g, i, none⟩ = false :=
  fun i => (World.frozen?_of_block (a := ⟨g, i, none⟩) (hb.block _ hg)).trans (hf i)
theorem run_append_zero {P : Program} {w : World} (base : Nat) (t ty e : TypeId) (i : TypeInfo) (size : Nat) (ht : P.underlying t = some (.slice e)) (hi : P.info? e = some i)
    (v : Value) (n : Nat) (xs : List Value) (hown : w.ownsRow base e size v n xs) (A : Option Addr) (c : Nat) :
    (Builtin.append_ #[t, t] ty #[v, .slice A 0 c]).run P w = .ok v w := by
  rcases hown.2 with ⟨rfl, rfl⟩ | ⟨g, cap, cur, rfl, _, _, hnc, _⟩
  · exact run_append_none t ty e i ht hi A c
  · cases A <;> simp [Builtin.append_, run_underlying ht, sizeOf, typeInfo, hi, Builtin.lenOf, Builtin.firstCells, hnc, storeCells, go_sem]
/-- append(v, l...): v is owned -/
theorem run_append_gen {P : Program} {w : World} (t ty : TypeId) {e : TypeId} {z : Value} {size bytes : Nat} (hinfo : (P.info? e).map (fun i => (i.zero, i.size, i.bytes)) = some (some z, size, bytes)) (ht : P.underlying t = some (.slice e))
    (hzs : z.cells.size = size) (hsz : 0 < size) (hb0 : 0 < bytes) {ok : Nat → Prop} {v : Value} {n : Nat} {cs : List Value} (HO : OwnR e size ok w v n cs) (A : Option Addr) (m c : Nat) (news : List Value) (hl : news.length = m * size)
    (hA : 0 < m → ∃ g off, A = some ⟨g, off, none⟩ ∧ ∀ j u, news[j]? = some u → w.cell? ⟨g, off + j, none⟩ = some u) (h1 : ∀ u ∈ news, u.oneCell' = true) (hbytes : (n + m) * bytes ≤ 140737488355328) (hnew : ∀ k, w.heap.size ≤ k → ok k) :
    ∃ v' w', (Builtin.append_ #[t, t] ty #[v, .slice A m c]).run P w = .ok v' w' ∧ OwnR e size ok w' v' (n + m) (cs ++ news) ∧ w.grownBy w' v.ownBlock := by
  obtain ⟨i, hi, hz0, hz1, hz2⟩ := info_parts hinfo
  by_cases hm : m = 0
  · subst hm
    have hnil : news = [] := List.length_eq_zero_iff.1 (by simpa using hl)
    subst hnil
    rw [List.append_nil]
    exact ⟨v, w, run_append_zero 0 t ty e i size ht hi v n cs HO.row A c, HO, ⟨rfl, rfl, rfl, Nat.le_refl _, fun _ _ _ => rfl⟩⟩
  · obtain ⟨g, off, rfl, hc⟩ := hA (Nat.pos_of_ne_zero hm)
    have hnm : n + m ≤ 140737488355328 := Nat.le_trans (Nat.le_mul_of_pos_right _ hb0) hbytes
    obtain ⟨v', w', hr, hown, hg, _, hat⟩ := run_append_own_at (P := P) w 0 t ty e i z size bytes ht hi hz0 hz1 hz2 (by rw [← hzs]) hsz v n cs HO.row ⟨g, off, none⟩ m c news hl
      (fun j u hj => by have := hc j u hj; unfold Addr.add; split <;> simp_all) h1 (by unfold maxLen; omega) hbytes (Nat.zero_le _)
    refine ⟨v', w', hr, ⟨hown, fun k hk => ?_⟩, hg⟩
    rcases hat with hat | hat
    · exact HO.blk k (hat ▸ hk)
    · rw [hat] at hk
      injection hk with hk
      exact hnew k (Nat.le_of_eq hk)
/-- at a step of a region that draws -/
theorem step_append_gen {P : Program} {w : World} {ops : Array Oper} {o : Oper} {a : Act} {K : Act → World → Prop} {Q : Exit → Act → World → Prop} {E : Prop} (hgd : o.guard = none) (s x : Operand) (t : TypeId)
    (ho : o.op = .call { callee := .builtin .append, args := #[s, x], argTypes := #[t, t] }) {e : TypeId} {z : Value} {size bytes : Nat} (hinfo : (P.info? e).map (fun i => (i.zero, i.size, i.bytes)) = some (some z, size, bytes)) (ht : P.underlying t = some (.slice e))
    (hzs : z.cells.size = size) (hsz : 0 < size) (hb0 : 0 < bytes) {ok : Nat → Prop} {v : Value} {n : Nat} {cs : List Value} (hs : a.eval s = v) (HO : OwnR e size ok w v n cs) (A : Option Addr) (m c : Nat) (news : List Value) (hx : a.eval x = .slice A m c) (hl : news.length = m * size)
    (hA : 0 < m → ∃ g off, A = some ⟨g, off, none⟩ ∧ ∀ j u, news[j]? = some u → w.cell? ⟨g, off + j, none⟩ = some u) (h1 : ∀ u ∈ news, u.oneCell' = true) (hbytes : (n + m) * bytes ≤ 140737488355328) (hnew : ∀ k, w.heap.size ≤ k → ok k)
    (h : ∀ v' w', OwnR e size ok w' v' (n + m) (cs ++ news) → w.grownBy w' v.ownBlock → K (a.put o.dst v') w') :
    if Region.wanted o (yielded ops a.tmps) = true then Oper.wp P o a w K Q else E := by
  have hw : Region.wanted o (yielded ops a.tmps) = true := by simp [Region.wanted, hgd]
  rw [if_pos hw]
  obtain ⟨v', w', hr, h2, h3⟩ := run_append_gen (P := P) (w := w) t o.type hinfo ht hzs hsz hb0 HO A m c news hl hA h1 hbytes hnew
  unfold Oper.wp
  simp only [execOp, ho, resolve, invoke, builtin, Sem.run_bind, Sem.run_pure, Result.andThen_ok, List.map_toArray, List.map_cons, List.map_nil, hs, hx, hr]
  exact h v' w' h2 h3
/-- at a plain region's list -/
theorem wpList_append_gen {P : Program} {w : World} {ops : Array Oper} {rest : List Oper} {o : Oper} {a : Act} {Q : Exit → Act → World → Prop} (hgd : o.guard = none) (s x : Operand) (t : TypeId)
    (ho : o.op = .call { callee := .builtin .append, args := #[s, x], argTypes := #[t, t] }) {e : TypeId} {z : Value} {size bytes : Nat} (hinfo : (P.info? e).map (fun i => (i.zero, i.size, i.bytes)) = some (some z, size, bytes)) (ht : P.underlying t = some (.slice e))
    (hzs : z.cells.size = size) (hsz : 0 < size) (hb0 : 0 < bytes) {ok : Nat → Prop} {v : Value} {n : Nat} {cs : List Value} (hs : a.eval s = v) (HO : OwnR e size ok w v n cs) (A : Option Addr) (m c : Nat) (news : List Value) (hx : a.eval x = .slice A m c) (hl : news.length = m * size)
    (hA : 0 < m → ∃ g off, A = some ⟨g, off, none⟩ ∧ ∀ j u, news[j]? = some u → w.cell? ⟨g, off + j, none⟩ = some u) (h1 : ∀ u ∈ news, u.oneCell' = true) (hbytes : (n + m) * bytes ≤ 140737488355328) (hnew : ∀ k, w.heap.size ≤ k → ok k)
    (h : ∀ v' w', OwnR e size ok w' v' (n + m) (cs ++ news) → w.grownBy w' v.ownBlock → wpList P ops Q rest (a.put o.dst v') w') : wpList P ops Q (o :: rest) a w := by
  refine wpList_plain hgd fun K hK => ?_
  obtain ⟨v', w', hr, h2, h3⟩ := run_append_gen (P := P) (w := w) t o.type hinfo ht hzs hsz hb0 HO A m c news hl hA h1 hbytes hnew
  unfold Oper.wp
  simp only [execOp, ho, resolve, invoke, builtin, Sem.run_bind, Sem.run_pure, Result.andThen_ok, List.map_toArray, List.map_cons, List.map_nil, hs, hx, hr]
  exact hK _ _ (h v' w' h2 h3)

/-- cells that read as these values -/
structure Elems (ok : Nat → Prop) (w : World) (news : List Value) (l : List V) : Prop where
  len : news.length = l.length * 5
  at_ : ∀ j (hj : j < l.length), ∃ c0 c1 c2 c3 c4, news[j * 5]? = some c0 ∧ news[j * 5 + 1]? = some c1 ∧ news[j * 5 + 2]? = some c2 ∧ news[j * 5 + 3]? = some c3 ∧ news[j * 5 + 4]? = some c4 ∧ RdV ok w (.agg #[c0, c1, c2, c3, c4]) l[j]
  one : ∀ u ∈ news, u.oneCell' = true
theorem Elems.nil (ok : Nat → Prop) (w : World) : Elems ok w [] [] := ⟨rfl, fun j hj => absurd hj (by simp), by simp⟩
theorem RdV.ones {ok : Nat → Prop} {w : World} {c0 c1 c2 c3 c4 : Value} {X : V} (h : RdV ok w (.agg #[c0, c1, c2, c3, c4]) X) : ∀ u ∈ [c0, c1, c2, c3, c4], u.oneCell' = true := by
  obtain ⟨A, c, B, d, he, _⟩ := h.form
  injection he with he
  simp only [Array.mk.injEq, List.cons.injEq, and_true] at he
  obtain ⟨rfl, rfl, rfl, rfl, rfl⟩ := he
  intro u hu
  simp only [List.mem_cons, List.not_mem_nil, or_false] at hu
  rcases hu with rfl | rfl | rfl | rfl | rfl <;> rfl
theorem Elems.cons {ok : Nat → Prop} {w : World} {news : List Value} {l : List V} {c0 c1 c2 c3 c4 : Value} {X : V} (h0 : RdV ok w (.agg #[c0, c1, c2, c3, c4]) X) (h : Elems ok w news l) : Elems ok w (c0 :: c1 :: c2 :: c3 :: c4 :: news) (X :: l) := by
  refine ⟨by have := h.len; simp only [List.length_cons]; omega, fun j hj => ?_, fun u hu => ?_⟩
  · cases j with
    | zero => exact ⟨c0, c1, c2, c3, c4, rfl, rfl, rfl, rfl, rfl, h0⟩
    | succ j =>
      obtain ⟨d0, d1, d2, d3, d4, e0, e1, e2, e3, e4, hr⟩ := h.at_ j (by simpa using hj)
      have hs : (j + 1) * 5 = j * 5 + 5 := by omega
      refine ⟨d0, d1, d2, d3, d4, ?_, ?_, ?_, ?_, ?_, hr⟩ <;> simp only [hs] <;> assumption
  · have := h0.ones u
    simp only [List.mem_cons] at hu
    simp only [List.mem_cons, List.not_mem_nil, or_false] at this
    rcases hu with h1 | h1 | h1 | h1 | h1 | h1
    · exact this (Or.inl h1)
    · exact this (Or.inr (Or.inl h1))
    · exact this (Or.inr (Or.inr (Or.inl h1)))
    · exact this (Or.inr (Or.inr (Or.inr (Or.inl h1))))
    · exact this (Or.inr (Or.inr (Or.inr (Or.inr h1))))
    · exact h.one u h1
theorem Elems.tail {ok : Nat → Prop} {w : World} {news : List Value} {X : V} {l : List V} (h : Elems ok w news (X :: l)) : ∃ c0 c1 c2 c3 c4 r, news = c0 :: c1 :: c2 :: c3 :: c4 :: r ∧ RdV ok w (.agg #[c0, c1, c2, c3, c4]) X ∧ Elems ok w r l := by
  have hl := h.len
  match news, h with
  | [], h => simp at hl
  | [_], h => simp at hl; omega
  | [_, _], h => simp at hl; omega
  | [_, _, _], h => simp at hl; omega
  | [_, _, _, _], h => simp at hl; omega
  | c0 :: c1 :: c2 :: c3 :: c4 :: r, h =>
    obtain ⟨d0, d1, d2, d3, d4, e0, e1, e2, e3, e4, hr⟩ := h.at_ 0 (by simp)
    simp at e0 e1 e2 e3 e4
    subst e0 e1 e2 e3 e4
    refine ⟨c0, c1, c2, c3, c4, r, rfl, hr, ⟨by simp at hl; omega, fun j hj => ?_, fun u hu => h.one u (by simp [hu])⟩⟩
    obtain ⟨d0, d1, d2, d3, d4, e0, e1, e2, e3, e4, hr⟩ := h.at_ (j + 1) (by simpa using hj)
    have hs : (j + 1) * 5 = j * 5 + 5 := by omega
    simp only [hs] at e0 e1 e2 e3 e4
    exact ⟨d0, d1, d2, d3, d4, by simpa using e0, by simpa using e1, by simpa using e2, by simpa using e3, by simpa using e4, by simpa using hr⟩
theorem Elems.append {ok : Nat → Prop} {w : World} : ∀ {l k : List V} {a b : List Value}, Elems ok w a l → Elems ok w b k → Elems ok w (a ++ b) (l ++ k)
  | [], k, a, b, ha, hb => by
    have : a = [] := List.length_eq_zero_iff.1 (by simpa using ha.len)
    subst this
    exact hb
  | X :: l, k, a, b, ha, hb => by
    obtain ⟨c0, c1, c2, c3, c4, r, rfl, hr, ht⟩ := ha.tail
    exact (ht.append hb).cons hr
theorem Elems.below {ok : Nat → Prop} {w w1 : World} {a : List Value} {l : List V} (h : Elems ok w a l) (hb : Below w.heap.size w w1) : Elems ok w1 a l :=
  ⟨h.len, fun j hj => by obtain ⟨d0, d1, d2, d3, d4, e0, e1, e2, e3, e4, hr⟩ := h.at_ j hj; exact ⟨d0, d1, d2, d3, d4, e0, e1, e2, e3, e4, hr.below hb⟩, h.one⟩
theorem Elems.fr {ok ok' : Nat → Prop} {w w1 : World} {a : List Value} {l : List V} (h : Elems ok w a l) (hf : Fr ok' w w1) (hn : ∀ b, b < w.heap.size → ok b → ¬ ok' b) : Elems ok w1 a l :=
  ⟨h.len, fun j hj => by obtain ⟨d0, d1, d2, d3, d4, e0, e1, e2, e3, e4, hr⟩ := h.at_ j hj; exact ⟨d0, d1, d2, d3, d4, e0, e1, e2, e3, e4, hr.fr hf hn⟩, h.one⟩
theorem Elems.imp {ok ok' : Nat → Prop} {w : World} {a : List Value} {l : List V} (h : Elems ok w a l) (hk : ∀ b, ok b → ok' b) : Elems ok' w a l :=
  ⟨h.len, fun j hj => by obtain ⟨d0, d1, d2, d3, d4, e0, e1, e2, e3, e4, hr⟩ := h.at_ j hj; exact ⟨d0, d1, d2, d3, d4, e0, e1, e2, e3, e4, hr.imp hk⟩, h.one⟩
/-- a row of values: its cells -/
theorem RdVs.elems {ok : Nat → Prop} {w : World} {A : Option Addr} {n c : Nat} : ∀ {l : List V} {i : Nat}, RdVs ok w (.slice A n c) i l → ∃ news, Elems ok w news l ∧ (0 < l.length → ∃ g off, A = some ⟨g, off, none⟩ ∧ ∀ j u, news[j]? = some u → w.cell? ⟨g, off + i * 5 + j, none⟩ = some u)
  | [], i, h => ⟨[], Elems.nil _ _, fun h0 => absurd h0 (by simp)⟩
  | X :: l, i, h => by
    unfold RdVs at h
    obtain ⟨⟨g, o, v, ⟨off, nn, cc, hv, ho, hg⟩, ⟨c0, c1, c2, c3, c4, rfl, e0, e1, e2, e3, e4⟩, hr⟩, ht⟩ := h
    injection hv with h1 _ _
    subst h1
    subst ho
    obtain ⟨news, hE, hc⟩ := RdVs.elems ht
    refine ⟨c0 :: c1 :: c2 :: c3 :: c4 :: news, hE.cons hr, fun _ => ⟨g, off, rfl, fun j u hj => ?_⟩⟩
    match j, hj with
    | 0, hj => simp at hj; subst hj; exact e0
    | 1, hj => simp at hj; subst hj; exact e1
    | 2, hj => simp at hj; subst hj; exact e2
    | 3, hj => simp at hj; subst hj; exact e3
    | 4, hj => simp at hj; subst hj; exact e4
    | j + 5, hj =>
      have hj' : news[j]? = some u := by simpa using hj
      have hpos : 0 < l.length := by
        have := (List.getElem?_eq_some_iff.1 hj').1
        have := hE.len
        omega
      obtain ⟨g', off', hA, hcell⟩ := hc hpos
      injection hA with hA
      injection hA with h2 h3
      subst h2 h3
      have := hcell j u hj'
      rwa [show off + (i + 1) * 5 + j = off + i * 5 + (j + 5) by omega] at this
/-- a row that is owned reads as the values -/
theorem RdVs.own {e : TypeId} {ok : Nat → Prop} {w : World} {v : Value} {news : List Value} {l : List V} (h : OwnR e 5 ok w v l.length news) (hE : Elems ok w news l) : RdVs ok w v 0 l := by
  refine RdVs.mk fun j hj => ?_
  obtain ⟨g, cap, rfl, hk, _, hcell⟩ := h.form (Nat.lt_of_le_of_lt (Nat.zero_le _) hj)
  obtain ⟨c0, c1, c2, c3, c4, e0, e1, e2, e3, e4, hr⟩ := hE.at_ j hj
  exact ⟨g, j * 5, _, ⟨0, _, _, rfl, by omega, hk⟩, ⟨c0, c1, c2, c3, c4, rfl, hcell _ _ e0, hcell _ _ e1, hcell _ _ e2, hcell _ _ e3, hcell _ _ e4⟩, hr⟩
theorem OwnR.slForm {e sz : Nat} {ok : Nat → Prop} {w : World} {v : Value} {n : Nat} {cs : List Value} (h : OwnR e sz ok w v n cs) (hn : n ≤ 16777216) : SlForm v n := by
  rcases h.row.2 with ⟨rfl, h0⟩ | ⟨g, cap, cur, rfl, _, _, hl, hm, _⟩
  · subst h0; exact ⟨none, 0, rfl, by simp, by omega, by simp⟩
  · exact ⟨_, cap, rfl, hl, by unfold maxLen at hm; omega, hn⟩

theorem infoNode : (Tryd.prog.info? 28).map (fun i => (i.zero, i.size, i.bytes)) = some (some (.agg #[.int .i64 0, .string ⟨#[]⟩, .int .i64 0, .int .i64 0, .string ⟨#[]⟩, .slice none 0 0, .slice none 0 0, .bool false, .slice none 0 0, .int .i64 0]), 10, 144) := by kernel_rfl
/-- cells that read as these nodes -/
structure NElems (ok : Nat → Prop) (w : World) (news : List Value) (l : List N) : Prop where
  len : news.length = l.length * 10
  at_ : ∀ j (hj : j < l.length), ∃ cs : List Value, cs.length = 10 ∧ (∀ i u, cs[i]? = some u → news[j * 10 + i]? = some u) ∧ RdN ok w (.agg cs.toArray) l[j]
  one : ∀ u ∈ news, u.oneCell' = true
theorem NElems.nil (ok : Nat → Prop) (w : World) : NElems ok w [] [] := ⟨rfl, fun j hj => absurd hj (by simp), by simp⟩
theorem RdN.ones {ok : Nat → Prop} {w : World} {cs : List Value} {X : N} (h : RdN ok w (.agg cs.toArray) X) : ∀ u ∈ cs, u.oneCell' = true := by
  obtain ⟨A, c, B, d, K, e, he, _⟩ := h.form
  injection he with he
  have := congrArg Array.toList he
  simp only at this
  subst this
  intro u hu
  simp only [List.mem_cons, List.not_mem_nil, or_false] at hu
  rcases hu with rfl | rfl | rfl | rfl | rfl | rfl | rfl | rfl | rfl | rfl <;> rfl
theorem NElems.snoc {ok : Nat → Prop} {w : World} {news : List Value} {l : List N} {cs : List Value} {X : N} (h : NElems ok w news l) (hc : cs.length = 10) (h0 : RdN ok w (.agg cs.toArray) X) : NElems ok w (news ++ cs) (l ++ [X]) := by
  have hl := h.len
  refine ⟨by simp only [List.length_append, List.length_cons, List.length_nil]; omega, fun j hj => ?_, fun u hu => ?_⟩
  · by_cases hjl : j < l.length
    · obtain ⟨ds, e0, e1, hr⟩ := h.at_ j hjl
      refine ⟨ds, e0, fun i u hi => ?_, by rw [List.getElem_append_left hjl]; exact hr⟩
      have := e1 i u hi
      rw [List.getElem?_append_left (List.getElem?_eq_some_iff.1 this).1]
      exact this
    · have hje : j = l.length := by simp only [List.length_append, List.length_cons, List.length_nil] at hj; omega
      subst hje
      refine ⟨cs, hc, fun i u hi => ?_, by simpa using h0⟩
      rw [List.getElem?_append_right (by omega), show l.length * 10 + i - news.length = i by omega]
      exact hi
  · rw [List.mem_append] at hu
    rcases hu with hu | hu
    · exact h.one u hu
    · exact h0.ones u hu
theorem NElems.fr {ok ok' : Nat → Prop} {w w1 : World} {a : List Value} {l : List N} (h : NElems ok w a l) (hf : Fr ok' w w1) (hn : ∀ b, b < w.heap.size → ok b → ¬ ok' b) : NElems ok w1 a l :=
  ⟨h.len, fun j hj => by obtain ⟨cs, e0, e1, hr⟩ := h.at_ j hj; exact ⟨cs, e0, e1, hr.fr hf hn⟩, h.one⟩
theorem NElems.below {ok : Nat → Prop} {w w1 : World} {a : List Value} {l : List N} (h : NElems ok w a l) (hb : Below w.heap.size w w1) : NElems ok w1 a l :=
  ⟨h.len, fun j hj => by obtain ⟨cs, e0, e1, hr⟩ := h.at_ j hj; exact ⟨cs, e0, e1, hr.below hb⟩, h.one⟩
theorem NElems.imp {ok ok' : Nat → Prop} {w : World} {a : List Value} {l : List N} (h : NElems ok w a l) (hk : ∀ b, ok b → ok' b) : NElems ok' w a l :=
  ⟨h.len, fun j hj => by obtain ⟨cs, e0, e1, hr⟩ := h.at_ j hj; exact ⟨cs, e0, e1, hr.imp hk⟩, h.one⟩
theorem RdNs.own {e : TypeId} {ok : Nat → Prop} {w : World} {v : Value} {news : List Value} {l : List N} (h : OwnR e 10 ok w v l.length news) (hE : NElems ok w news l) : RdNs ok w v 0 l := by
  refine RdNs.mk fun j hj => ?_
  obtain ⟨g, cap, rfl, hk, _, hcell⟩ := h.form (Nat.lt_of_le_of_lt (Nat.zero_le _) hj)
  obtain ⟨cs, e0, e1, hr⟩ := hE.at_ j hj
  refine ⟨g, j * 10, cs, ⟨0, _, _, rfl, by omega, hk⟩, e0, fun i u hi => hcell _ _ (e1 i u hi), hr⟩
theorem Elems.snoc {ok : Nat → Prop} {w : World} {news : List Value} {l : List V} {c0 c1 c2 c3 c4 : Value} {X : V} (h : Elems ok w news l) (h0 : RdV ok w (.agg #[c0, c1, c2, c3, c4]) X) : Elems ok w (news ++ [c0, c1, c2, c3, c4]) (l ++ [X]) :=
  h.append ((Elems.nil ok w).cons h0)
end Go.Proofs.YthlfeiiolafonaaDoor
