/- Rows of bytes: what an append to one keeps: all blocks that are no rows of bytes. -/
import Derived.Test.YthlfeiiolafonaaGreatDoorRefLitB
import Derived.Test.YthlfeiiolafonaaGreatDoorPrintW
set_option linter.unusedVariables false
set_option linter.unusedSimpArgs false
namespace Go.Proofs.YthlfeiiolafonaaGreatDoor
open Go.RowKit

/-- from w0 to w: what lies below m stands, and all that is no row of bytes -/
structure KeptTo (m : Nat) (w0 w : World) : Prop where
  bel : Below m w0 w
  oth : Lib.OthersKept 5 none w0 w
theorem KeptTo.refl (m : Nat) (w : World) : KeptTo m w w := ⟨Below.refl _ _, Lib.OthersKept.refl _ _ _⟩
theorem KeptTo.trans {m : Nat} {w0 w1 w2 : World} (h : KeptTo m w0 w1) (k : KeptTo m w1 w2) : KeptTo m w0 w2 := ⟨h.bel.trans k.bel, h.oth.trans k.oth⟩
theorem KeptTo.of {m : Nat} {w w' : World} (hb : Below w.heap.size w w') (hm : m ≤ w.heap.size) : KeptTo m w w' := ⟨hb.mono hm, kept_of_below hb _ _⟩
theorem KeptTo.more {m : Nat} {w0 w w' : World} (h : KeptTo m w0 w) (hb : Below w.heap.size w w') (hm : m ≤ w.heap.size) : KeptTo m w0 w' := h.trans (KeptTo.of hb hm)
theorem Held.kt {g m : Nat} {cs : Array Value} {t : TypeId} {W W' : World} (h : Held g cs t W) (ht : t ≠ 5) (hk : KeptTo m W W') : Held g cs t W' := by
  obtain ⟨fz, h⟩ := h
  exact ⟨fz, hk.oth g _ h (by simp) (fun c f e => by injection e with _ e2 _; exact ht e2)⟩
theorem kt_grown {m : Nat} {w w' : World} {v : Value} {n : Nat} {xs : List Value} (h : w.ownsRowF m 5 1 v n xs) (hm : m ≤ w.heap.size) (hg : w.grownBy w' v.ownBlock) : KeptTo m w w' :=
  ⟨(Below.refl m w).grown hg hm fun k hk => (h.lt k hk).1, (Lib.OthersKept.refl _ _ w).grown hg (Lib.ownsRowF_kind h)⟩
theorem kt_fresh (m : Nat) (w : World) (hm : m ≤ w.heap.size) (o : Obj) : KeptTo m w (w.drew.alloc o) := KeptTo.of (((Below.refl _ _).drew).alloc (Nat.le_refl _) o) hm
/-- append(v, s...), s a text -/
theorem RowB.app_strK {m : Nat} {w : World} {v : Value} {l : List UInt8} (h : RowB m w v l) (hm : m ≤ w.heap.size) (t : List UInt8) (hl : l.length + t.length ≤ 140737488355328) (ty : TypeId) :
    ∃ v' w', (Builtin.append_ #[38, 9] ty #[v, .string ⟨t.toArray⟩]).run Tryz.prog w = .ok v' w' ∧ RowB m w' v' (l ++ t) ∧ KeptTo m w w' := by
  obtain ⟨v', w', h1, h2, h3⟩ := h.app_str (Below.refl m w) hm t hl ty
  refine ⟨v', w', h1, h2, ?_⟩
  obtain ⟨i0, hi, hz0, hz1, hz2⟩ := info_parts Tryz.infoU8
  have hsl : (⟨t.toArray⟩ : ByteArray).size = t.length := List.size_toArray
  rcases h with h | ⟨g, rfl, k1, k2, k3⟩
  · obtain ⟨v2, w2, r1, r2, r3, _⟩ := Lib.run_append_own_stringF (P := Tryz.prog) w m 38 9 ty 5 i0 Tryz.underlying38 Tryz.underlying9 hi hz0 hz1 hz2 v l.length (bvals l) h ⟨t.toArray⟩ (by unfold maxLen; omega) (by omega) hm
    rw [h1] at r1
    injection r1 with e1 e2
    subst e2
    exact kt_grown h hm r3
  · by_cases ht : t = []
    · subst ht
      have hz : (Builtin.append_ #[38, 9] ty #[.slice (some ⟨g, 0, none⟩) l.length l.length, .string ⟨([] : List UInt8).toArray⟩]).run Tryz.prog w = .ok (.slice (some ⟨g, 0, none⟩) l.length l.length) w := by
        simp [Builtin.append_, run_underlying Tryz.underlying38, run_underlying Tryz.underlying9, sizeOf, typeInfo, hi, hz1, Builtin.lenOf, Builtin.firstCells, storeCells, go_sem]
      rw [h1] at hz
      injection hz with e1 e2
      subst e2
      exact KeptTo.refl _ _
    · have hpos : 0 < t.length := List.length_pos_iff.2 ht
      have hr := Lib.run_append_grow_string (P := Tryz.prog) w 38 9 ty 5 i0 (.int .u8 0) Tryz.underlying38 Tryz.underlying9 hi hz0 ⟨g, 0, none⟩ l.length l.length (bvals l) (by rw [hz1, bvals_len]; omega) (fun j u hj => by
        have := k3 j u hj
        unfold Addr.add
        split <;> simp_all) ⟨t.toArray⟩ (by omega) (by omega) (by rw [hz2]; exact growslice_fits (by omega) (by omega))
      rw [h1] at hr
      injection hr with e1 e2
      subst e2
      exact kt_fresh m w hm _
/-- append(v, x..), x a row that was just made -/
theorem RowB.app_rowK {m : Nat} {w : World} {v : Value} {l : List UInt8} (h : RowB m w v l) (hm : m ≤ w.heap.size) (news : List UInt8) (hpos : 0 < news.length) (cells : Array Value) (hc : cells = (bvals news).toArray) (n c : Nat) (hn : n = news.length) (hl : l.length + news.length ≤ 140737488355328) (ty : TypeId) :
    ∃ v' w', (Builtin.append_ #[38, 38] ty #[v, .slice (some ⟨w.heap.size, 0, none⟩) n c]).run Tryz.prog (w.alloc (.cells cells 5)) = .ok v' w' ∧ RowB m w' v' (l ++ news) ∧ KeptTo m w w' := by
  obtain ⟨v', w', h1, h2, h3⟩ := h.app_row (Below.refl m w) hm news hpos cells hc n c hn hl ty
  refine ⟨v', w', h1, h2, ?_⟩
  obtain ⟨i0, hi, hz0, hz1, hz2⟩ := info_parts Tryz.infoU8
  subst hc hn
  have hk1 : KeptTo m w (w.alloc (.cells (bvals news).toArray 5)) := KeptTo.of ((Below.refl _ _).alloc (Nat.le_refl _) _) hm
  have hm1 : m ≤ (w.alloc (.cells (bvals news).toArray 5)).heap.size := by simp; omega
  have hnew : ∀ j u, (bvals news)[j]? = some u → (w.alloc (.cells (bvals news).toArray 5)).cell? ((⟨w.heap.size, 0, none⟩ : Addr).add j) = some u := fun j u hj => by
    rw [show (⟨w.heap.size, 0, none⟩ : Addr).add j = ⟨w.heap.size, j, none⟩ by unfold Addr.add; split <;> simp_all]
    exact (World.cell?_alloc_mark w _ _ _ j).trans (by simpa using hj)
  rcases (RowB.below h (w' := w.alloc (.cells (bvals news).toArray 5)) ((Below.refl _ _).alloc (Nat.le_refl _) _)) with h | ⟨g, rfl, k1, k2, k3⟩
  · obtain ⟨v2, w2, r1, r2, r3, _⟩ := run_append_ownF (P := Tryz.prog) (w := w.alloc (.cells (bvals news).toArray 5)) m 38 ty 5 i0 (.int .u8 0) 1 1 Tryz.underlying38 hi hz0 hz1 hz2 rfl (by decide) v l.length (bvals l) h ⟨w.heap.size, 0, none⟩ news.length c (bvals news) (by rw [bvals_len]; omega) hnew (bvals_one _) (by unfold maxLen; omega) (by omega) hm1
    rw [h1] at r1
    injection r1 with e1 e2
    subst e2
    exact hk1.trans (kt_grown h hm1 r3)
  · have hr := run_append_grow (P := Tryz.prog) (w := w.alloc (.cells (bvals news).toArray 5)) 38 ty 5 i0 (.int .u8 0) Tryz.underlying38 hi hz0 ⟨g, 0, none⟩ l.length l.length (bvals l) (by rw [hz1, bvals_len]; omega) (fun j u hj => by
      have := k3 j u hj
      unfold Addr.add
      split <;> simp_all) ⟨w.heap.size, 0, none⟩ news.length c (bvals news) (by rw [hz1, bvals_len]; omega) hnew (by omega) (by omega) (by rw [hz2]; exact growslice_fits (by omega) (by omega))
    rw [h1] at hr
    injection hr with e1 e2
    subst e2
    exact hk1.trans (kt_fresh m _ hm1 _)
theorem wpRowK_str {ops : Array Oper} {rest : List Oper} {o : Oper} {a : Act} {Q : Exit → Act → World → Prop} {W w0 : World} {m : Nat} {l : List UInt8} (v : Value) (t : List UInt8)
    (s x : Operand) (hgd : o.guard = none) (ho : o.op = .call { callee := .builtin .append, args := #[s, x], argTypes := #[38, 9] })
    (hs : a.eval s = v) (hx : a.eval x = .string ⟨t.toArray⟩) (HO : RowB m W v l) (HF : KeptTo m w0 W) (hm : m ≤ w0.heap.size) (hl : l.length + t.length ≤ 140737488355328)
    (h : ∀ v1 w1, RowB m w1 v1 (l ++ t) → KeptTo m W w1 → KeptTo m w0 w1 → wpList Tryz.prog ops Q rest (a.put o.dst v1) w1) :
    wpList Tryz.prog ops Q (o :: rest) a W := by
  refine wpList_plain hgd fun K hK => ?_
  obtain ⟨v', w', hr, h2, h3⟩ := HO.app_strK (Nat.le_trans hm HF.bel.size) t hl o.type
  unfold Oper.wp execOp
  simp only [ho, resolve, invoke, builtin, Sem.run_bind, Sem.run_pure, Result.andThen_ok, List.map_toArray, List.map_cons, List.map_nil, hs, hx, hr]
  exact hK _ _ (h v' w' h2 h3 (HF.trans h3))
theorem wpRowK_row {ops : Array Oper} {rest : List Oper} {o : Oper} {a : Act} {Q : Exit → Act → World → Prop} {W w0 : World} {m : Nat} {l : List UInt8} (v : Value) (news : List UInt8) (hpos : 0 < news.length)
    (s x : Operand) (hgd : o.guard = none) (ho : o.op = .call { callee := .builtin .append, args := #[s, x], argTypes := #[38, 38] })
    (cells : Array Value) (hc : cells = (bvals news).toArray) (n c : Nat) (hs : a.eval s = v) (hx : a.eval x = .slice (some ⟨W.heap.size, 0, none⟩) n c) (hn : n = news.length)
    (HO : RowB m W v l) (HF : KeptTo m w0 W) (hm : m ≤ w0.heap.size) (hl : l.length + news.length ≤ 140737488355328)
    (h : ∀ v1 w1, RowB m w1 v1 (l ++ news) → KeptTo m W w1 → KeptTo m w0 w1 → wpList Tryz.prog ops Q rest (a.put o.dst v1) w1) :
    wpList Tryz.prog ops Q (o :: rest) a (W.alloc (.cells cells 5)) := by
  refine wpList_plain hgd fun K hK => ?_
  obtain ⟨v', w', hr, h2, h3⟩ := HO.app_rowK (Nat.le_trans hm HF.bel.size) news hpos cells hc n c hn hl o.type
  unfold Oper.wp execOp
  simp only [ho, resolve, invoke, builtin, Sem.run_bind, Sem.run_pure, Result.andThen_ok, List.map_toArray, List.map_cons, List.map_nil, hs, hx, hr]
  exact hK _ _ (h v' w' h2 h3 (HF.trans h3))
end Go.Proofs.YthlfeiiolafonaaGreatDoor
