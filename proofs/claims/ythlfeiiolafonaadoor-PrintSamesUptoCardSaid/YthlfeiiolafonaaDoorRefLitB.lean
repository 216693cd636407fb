/- Rows of bytes that a call makes, a literal's at their beginning too: appended to (bytes, texts), turned into a text. Contracts of the reference's Quoted, Digits, text, Print of what a source says. Contracts of the reference's Digits, text, Print of what a source says. -/
import Derived.Test.YthlfeiiolafonaaDoorBld2
import Derived.Lib.SlBytesConst
import Derived.Test.YthlfeiiolafonaaDoorLexQuoteP
import Derived.Test.YthlfeiiolafonaaDoorLitB
set_option linter.unusedVariables false
set_option linter.unusedSimpArgs false
namespace Go.Proofs.YthlfeiiolafonaaDoor
open Go.RowKit

/-- the value is a row of these bytes, in memory from block m on: the call's own, or one without room -/
def RowB (m : Nat) (w : World) (v : Value) (l : List UInt8) : Prop :=
  w.ownsRowF m 5 1 v l.length (bvals l) ∨ ∃ g, v = .slice (some ⟨g, 0, none⟩) l.length l.length ∧ m ≤ g ∧ g < w.heap.size ∧ ∀ j u, (bvals l)[j]? = some u → w.cell? ⟨g, j, none⟩ = some u
theorem RowB.nil (m : Nat) (w : World) : RowB m w (.slice none 0 0) [] := .inl ⟨rfl, .inl ⟨rfl, rfl⟩⟩
theorem RowB.below {m : Nat} {w w' : World} {v : Value} {l : List UInt8} (h : RowB m w v l) (hb : Below w.heap.size w w') : RowB m w' v l := by
  rcases h with h | ⟨g, rfl, h1, h2, h3⟩
  · exact .inl (h.kept (row := none) ⟨hb.os, hb.tape, hb.output, hb.size, fun k hk _ => hb.block k hk⟩ (Classical.em _))
  · exact .inr ⟨g, rfl, h1, Nat.lt_of_lt_of_le h2 hb.size, fun j u hj => bcell hb (h3 j u hj)⟩
theorem RowB.blk {m : Nat} {w : World} {v : Value} {l : List UInt8} (h : RowB m w v l) : ∀ k, v.ownBlock = some k → m ≤ k := by
  rcases h with h | ⟨g, rfl, h1, h2, h3⟩
  · exact fun k hk => (h.lt k hk).1
  · intro k hk
    simp [Value.ownBlock] at hk
    omega
theorem RowB.slice {m : Nat} {w : World} {v : Value} {l : List UInt8} (h : RowB m w v l) : ∃ A c, v = .slice A l.length c := by
  rcases h with ⟨_, h | ⟨g, cap, cur, fz, rfl, _⟩⟩ | ⟨g, rfl, _⟩
  · obtain ⟨rfl, h0⟩ := h
    exact ⟨none, 0, by rw [h0]⟩
  · exact ⟨_, _, rfl⟩
  · exact ⟨_, _, rfl⟩
/-- a literal's row, marked -/
theorem RowB.lit (m : Nat) (w : World) (l : List UInt8) (cells : Array Value) (hc : cells = (bvals l).toArray) (n : Nat) (hn : n = l.length) (fz : Nat × Nat) (hm : m ≤ w.heap.size) : RowB m (w.alloc (.cells cells 5 fz)) (.slice (some ⟨w.heap.size, 0, none⟩) n n) l := by
  subst hc hn
  refine .inr ⟨w.heap.size, rfl, hm, by simp, fun j u hj => ?_⟩
  rw [World.cell?_alloc_mark]
  simpa using hj
theorem fresh_own (w : World) (m : Nat) (hm : m ≤ w.heap.size) (e : TypeId) (xs news : List Value) (n cap : Nat) (hlen : (xs ++ news).length = n) (hcap : n ≤ cap) (hcm : cap ≤ maxLen) :
    (w.drew.alloc (.cells (xs.toArray ++ news.toArray ++ Builtin.zeroCells (Value.int .u8 0).cells (cap - n)) e)).ownsRowF m e 1 (.slice (some ⟨w.heap.size, 0, none⟩) n cap) n (xs ++ news) := by
  refine ⟨by rw [Nat.mul_one]; exact hlen, .inr ⟨w.heap.size, cap, _, (0, 0), rfl, hm, heap_alloc_new w.drew _, Nat.zero_le _, hcap, hcm, ?_, ?_⟩⟩
  · have hz1 : (Value.int IntKind.u8 0).cells.size = 1 := rfl
    rw [List.length_append] at hlen
    simp only [Array.size_append, List.size_toArray, size_zeroCells, hz1]
    omega
  · rw [Nat.mul_one]
    simp only [Array.toList_append, List.append_assoc]
    rw [← List.append_assoc, ← hlen]
    exact List.take_left
theorem fresh_below {m : Nat} {w0 w : World} (hb : Below m w0 w) (hm : m ≤ w.heap.size) (o : Obj) : Below m w0 (w.drew.alloc o) := (hb.trans ((Below.refl m w).drew)).alloc hm o
theorem byte_strCells (t : List UInt8) : Lib.strCells ⟨t.toArray⟩ = bvals t := rfl
/-- append(v, s...), s a text -/
theorem RowB.app_str {m : Nat} {w w0 : World} {v : Value} {l : List UInt8} (h : RowB m w v l) (hb : Below m w0 w) (hm : m ≤ w.heap.size) (t : List UInt8) (hl : l.length + t.length ≤ 140737488355328) (ty : TypeId) :
    ∃ v' w', (Builtin.append_ #[41, 9] ty #[v, .string ⟨t.toArray⟩]).run Tryd.prog w = .ok v' w' ∧ RowB m w' v' (l ++ t) ∧ Below m w0 w' := by
  obtain ⟨i0, hi, hz0, hz1, hz2⟩ := info_parts Tryd.infoU8
  have hsl : (⟨t.toArray⟩ : ByteArray).size = t.length := List.size_toArray
  rcases h with h | ⟨g, rfl, h1, h2, h3⟩
  · obtain ⟨v', w', r1, r2, r3, _⟩ := Lib.run_append_own_stringF (P := Tryd.prog) w m 41 9 ty 5 i0 Tryd.underlying41 Tryd.underlying9 hi hz0 hz1 hz2 v l.length (bvals l) h ⟨t.toArray⟩ (by unfold maxLen; omega) (by omega) hm
    refine ⟨v', w', r1, .inl ?_, hb.grown r3 hm fun k hk => (h.lt k hk).1⟩
    rw [hsl, byte_strCells] at r2
    rw [List.length_append, show bvals (l ++ t) = bvals l ++ bvals t by simp [bvals]]
    exact r2
  · by_cases ht : t = []
    · subst ht
      refine ⟨_, w, ?_, .inr ⟨g, by rw [List.append_nil], h1, h2, by rw [List.append_nil]; exact h3⟩, hb⟩
      simp [Builtin.append_, run_underlying Tryd.underlying41, run_underlying Tryd.underlying9, sizeOf, typeInfo, hi, hz1, Builtin.lenOf, Builtin.firstCells, storeCells, go_sem]
    · have hpos : 0 < t.length := List.length_pos_iff.2 ht
      have hr := Lib.run_append_grow_string (P := Tryd.prog) w 41 9 ty 5 i0 (.int .u8 0) Tryd.underlying41 Tryd.underlying9 hi hz0 ⟨g, 0, none⟩ l.length l.length (bvals l) (by rw [hz1, bvals_len]; omega) (fun j u hj => by
        have := h3 j u hj
        unfold Addr.add
        split <;> simp_all) ⟨t.toArray⟩ (by omega) (by omega) (by rw [hz2]; exact growslice_fits (by omega) (by omega))
      have hge := grownCap_ge w (l.length + t.length) l.length 5
      have hcm := grownCap_le_maxLen w (l.length + t.length) l.length 5 (by unfold maxLen; omega)
      rw [hsl, byte_strCells] at hr
      refine ⟨_, _, hr, .inl ?_, fresh_below hb hm _⟩
      rw [List.length_append, show bvals (l ++ t) = bvals l ++ bvals t by simp [bvals]]
      exact fresh_own w m hm 5 (bvals l) (bvals t) _ _ (by rw [List.length_append, bvals_len, bvals_len]) hge hcm
/-- append(v, x..), x a row that was just made -/
theorem RowB.app_row {m : Nat} {w w0 : World} {v : Value} {l : List UInt8} (h : RowB m w v l) (hb : Below m w0 w) (hm : m ≤ w.heap.size) (news : List UInt8) (hpos : 0 < news.length) (cells : Array Value) (hc : cells = (bvals news).toArray) (n c : Nat) (hn : n = news.length) (hl : l.length + news.length ≤ 140737488355328) (ty : TypeId) :
    ∃ v' w', (Builtin.append_ #[41, 41] ty #[v, .slice (some ⟨w.heap.size, 0, none⟩) n c]).run Tryd.prog (w.alloc (.cells cells 5)) = .ok v' w' ∧ RowB m w' v' (l ++ news) ∧ Below m w0 w' := by
  obtain ⟨i0, hi, hz0, hz1, hz2⟩ := info_parts Tryd.infoU8
  subst hc hn
  have hb1 : Below m w0 (w.alloc (.cells (bvals news).toArray 5)) := hb.alloc hm _
  have hm1 : m ≤ (w.alloc (.cells (bvals news).toArray 5)).heap.size := by simp; omega
  have hnew : ∀ j u, (bvals news)[j]? = some u → (w.alloc (.cells (bvals news).toArray 5)).cell? ((⟨w.heap.size, 0, none⟩ : Addr).add j) = some u := fun j u hj => by
    rw [show (⟨w.heap.size, 0, none⟩ : Addr).add j = ⟨w.heap.size, j, none⟩ by unfold Addr.add; split <;> simp_all]
    exact (World.cell?_alloc_mark w _ _ _ j).trans (by simpa using hj)
  rcases (RowB.below h (w' := w.alloc (.cells (bvals news).toArray 5)) ((Below.refl _ _).alloc (Nat.le_refl _) _)) with h | ⟨g, rfl, h1, h2, h3⟩
  · obtain ⟨v', w', r1, r2, r3, _⟩ := run_append_ownF (P := Tryd.prog) (w := w.alloc (.cells (bvals news).toArray 5)) m 41 ty 5 i0 (.int .u8 0) 1 1 Tryd.underlying41 hi hz0 hz1 hz2 rfl (by decide) v l.length (bvals l) h ⟨w.heap.size, 0, none⟩ news.length c (bvals news) (by rw [bvals_len]; omega) hnew (bvals_one _) (by unfold maxLen; omega) (by omega) hm1
    refine ⟨v', w', r1, .inl ?_, hb1.grown r3 hm1 fun k hk => (h.lt k hk).1⟩
    rw [List.length_append, show bvals (l ++ news) = bvals l ++ bvals news by simp [bvals]]
    exact r2
  · have hr := run_append_grow (P := Tryd.prog) (w := w.alloc (.cells (bvals news).toArray 5)) 41 ty 5 i0 (.int .u8 0) Tryd.underlying41 hi hz0 ⟨g, 0, none⟩ l.length l.length (bvals l) (by rw [hz1, bvals_len]; omega) (fun j u hj => by
      have := h3 j u hj
      unfold Addr.add
      split <;> simp_all) ⟨w.heap.size, 0, none⟩ news.length c (bvals news) (by rw [hz1, bvals_len]; omega) hnew (by omega) (by omega) (by rw [hz2]; exact growslice_fits (by omega) (by omega))
    have hge := grownCap_ge (w.alloc (.cells (bvals news).toArray 5)) (l.length + news.length) l.length 5
    have hcm := grownCap_le_maxLen (w.alloc (.cells (bvals news).toArray 5)) (l.length + news.length) l.length 5 (by unfold maxLen; omega)
    refine ⟨_, _, hr, .inl ?_, fresh_below hb1 hm1 _⟩
    rw [List.length_append, show bvals (l ++ news) = bvals l ++ bvals news by simp [bvals]]
    exact fresh_own (w.alloc (.cells (bvals news).toArray 5)) m hm1 5 (bvals l) (bvals news) _ _ (by rw [List.length_append, bvals_len, bvals_len]) hge hcm
theorem wpRow_str {ops : Array Oper} {rest : List Oper} {o : Oper} {a : Act} {Q : Exit → Act → World → Prop} {W w0 : World} {m : Nat} {l : List UInt8} (v : Value) (t : List UInt8)
    (s x : Operand) (hgd : o.guard = none) (ho : o.op = .call { callee := .builtin .append, args := #[s, x], argTypes := #[41, 9] })
    (hs : a.eval s = v) (hx : a.eval x = .string ⟨t.toArray⟩) (HO : RowB m W v l) (HF : Below m w0 W) (hm : m ≤ w0.heap.size) (hl : l.length + t.length ≤ 140737488355328)
    (h : ∀ v1 w1, RowB m w1 v1 (l ++ t) → Below m w0 w1 → wpList Tryd.prog ops Q rest (a.put o.dst v1) w1) :
    wpList Tryd.prog ops Q (o :: rest) a W := by
  refine wpList_plain hgd fun K hK => ?_
  obtain ⟨v', w', hr, h2, h3⟩ := HO.app_str HF (Nat.le_trans hm HF.size) t hl o.type
  unfold Oper.wp execOp
  simp only [ho, resolve, invoke, builtin, Sem.run_bind, Sem.run_pure, Result.andThen_ok, List.map_toArray, List.map_cons, List.map_nil, hs, hx, hr]
  exact hK _ _ (h v' w' h2 h3)
theorem opRow_row {o : Oper} {a : Act} {Q : Exit → Act → World → Prop} {K : Act → World → Prop} {W w0 : World} {m : Nat} {l : List UInt8} (v : Value) (news : List UInt8) (hpos : 0 < news.length)
    (s x : Operand) (ho : o.op = .call { callee := .builtin .append, args := #[s, x], argTypes := #[41, 41] })
    (cells : Array Value) (hc : cells = (bvals news).toArray) (n c : Nat) (hs : a.eval s = v) (hx : a.eval x = .slice (some ⟨W.heap.size, 0, none⟩) n c) (hn : n = news.length)
    (HO : RowB m W v l) (HF : Below m w0 W) (hm : m ≤ w0.heap.size) (hl : l.length + news.length ≤ 140737488355328)
    (h : ∀ v1 w1, RowB m w1 v1 (l ++ news) → Below m w0 w1 → K (a.put o.dst v1) w1) : Oper.wp Tryd.prog o a (W.alloc (.cells cells 5)) K Q := by
  obtain ⟨v', w', hr, h2, h3⟩ := HO.app_row HF (Nat.le_trans hm HF.size) news hpos cells hc n c hn hl o.type
  unfold Oper.wp execOp
  simp only [ho, resolve, invoke, builtin, Sem.run_bind, Sem.run_pure, Result.andThen_ok, List.map_toArray, List.map_cons, List.map_nil, hs, hx, hr]
  exact h v' w' h2 h3
theorem wpRow_row {ops : Array Oper} {rest : List Oper} {o : Oper} {a : Act} {Q : Exit → Act → World → Prop} {W w0 : World} {m : Nat} {l : List UInt8} (v : Value) (news : List UInt8) (hpos : 0 < news.length)
    (s x : Operand) (hgd : o.guard = none) (ho : o.op = .call { callee := .builtin .append, args := #[s, x], argTypes := #[41, 41] })
    (cells : Array Value) (hc : cells = (bvals news).toArray) (n c : Nat) (hs : a.eval s = v) (hx : a.eval x = .slice (some ⟨W.heap.size, 0, none⟩) n c) (hn : n = news.length)
    (HO : RowB m W v l) (HF : Below m w0 W) (hm : m ≤ w0.heap.size) (hl : l.length + news.length ≤ 140737488355328)
    (h : ∀ v1 w1, RowB m w1 v1 (l ++ news) → Below m w0 w1 → wpList Tryd.prog ops Q rest (a.put o.dst v1) w1) :
    wpList Tryd.prog ops Q (o :: rest) a (W.alloc (.cells cells 5)) :=
  wpList_plain hgd fun K hK => opRow_row v news hpos s x ho cells hc n c hs hx hn HO HF hm hl fun v1 w1 h1 h2 => hK _ _ (h v1 w1 h1 h2)
/-- .. and in a region that draws its order -/
theorem stRow_row {ops : Array Oper} {o : Oper} {a : Act} {Q : Exit → Act → World → Prop} {K : Act → World → Prop} {E : Prop} {W w0 : World} {m : Nat} {l : List UInt8} (v : Value) (news : List UInt8) (hpos : 0 < news.length)
    (s x : Operand) (hgd : o.guard = none) (ho : o.op = .call { callee := .builtin .append, args := #[s, x], argTypes := #[41, 41] })
    (cells : Array Value) (hc : cells = (bvals news).toArray) (n c : Nat) (hs : a.eval s = v) (hx : a.eval x = .slice (some ⟨W.heap.size, 0, none⟩) n c) (hn : n = news.length)
    (HO : RowB m W v l) (HF : Below m w0 W) (hm : m ≤ w0.heap.size) (hl : l.length + news.length ≤ 140737488355328)
    (h : ∀ v1 w1, RowB m w1 v1 (l ++ news) → Below m w0 w1 → K (a.put o.dst v1) w1) :
    if Region.wanted o (yielded ops a.tmps) = true then Oper.wp Tryd.prog o a (W.alloc (.cells cells 5)) K Q else E := by
  rw [if_pos (by simp [Region.wanted, hgd])]
  exact opRow_row v news hpos s x ho cells hc n c hs hx hn HO HF hm hl h
theorem RowB.toStr {m : Nat} {w : World} {v : Value} {l : List UInt8} (h : RowB m w v l) : (convert 41 9 v).run Tryd.prog w = .ok (.string ⟨l.toArray⟩) w := by
  have key : ∀ (g cap : Nat), (∀ j u, (bvals l)[j]? = some u → w.cell? ⟨g, j, none⟩ = some u) → (convert 41 9 (.slice (some ⟨g, 0, none⟩) l.length cap)).run Tryd.prog w = .ok (.string ⟨l.toArray⟩) w := by
    intro g cap hc
    have hr := run_convert_bytes_arg (P := Tryd.prog) w 41 5 Tryd.underlying41 Tryd.underlying5 g 0 l.length cap (l.map fun c => (c.toNat : Int)) (by simp) (fun i hi => ?_) 9 Tryd.underlying9
    · rw [hr]
      have e1 : List.map ((fun n : Int => UInt8.ofNat n.toNat) ∘ fun c : UInt8 => (c.toNat : Int)) l = l := by
        rw [List.map_congr_left (g := id) (fun a _ => by simp)]
        simp
      simp only [strOfNums, List.map_map, e1]
    · rw [Nat.zero_add]
      exact hc i _ (by simp [bvals, List.getElem?_eq_getElem hi])
  rcases h with h | ⟨g, rfl, _, _, h3⟩
  · rcases h.2 with ⟨rfl, hn⟩ | ⟨g, cap, cur, fz, rfl, _, hh, _⟩
    · obtain rfl : l = [] := List.eq_nil_of_length_eq_zero hn
      exact run_convert_bytes_nil w 41 5 Tryd.underlying41 Tryd.underlying5 0 0 9 Tryd.underlying9
    · refine key g cap fun j u hj => ?_
      have hc := h.cells (g := g) rfl j u hj
      rwa [show (⟨g, 0, none⟩ : Addr).add j = ⟨g, j, none⟩ by unfold Addr.add; split <;> simp_all] at hc
  · exact key g _ h3
end Go.Proofs.YthlfeiiolafonaaDoor
namespace Go.Proofs.YthlfeiiolafonaaDoor
open Go.RowKit

end Go.Proofs.YthlfeiiolafonaaDoor
namespace Go.Proofs.YthlfeiiolafonaaDoor
open Go.RowKit Go.IntWalk

def ddS (m : Nat) : List UInt8 := if m = 0 then [] else Lib.decDigits m
theorem ddS_step (m : Nat) : Lib.decDigits m = ddS (m / 10) ++ [UInt8.ofNat (48 + m % 10)] := by
  unfold ddS
  by_cases h : m < 10
  · rw [if_pos (by omega), Lib.decDigits, dif_pos h, Nat.mod_eq_of_lt h]; rfl
  · rw [if_neg (by omega)]
    conv => lhs; rw [Lib.decDigits, dif_neg h]
theorem ddS_pos {m : Nat} (h : 0 < m) : ddS m = ddS (m / 10) ++ [UInt8.ofNat (48 + m % 10)] := by
  rw [← ddS_step]
  unfold ddS
  rw [if_neg (by omega)]
theorem dig_slice (d : Nat) (h : d < 10) : (⟨#[48, 49, 50, 51, 52, 53, 54, 55, 56, 57]⟩ : ByteArray).extract d (d + 1) = ⟨#[UInt8.ofNat (48 + d)]⟩ := by
  have key : ∀ d : Fin 10, (⟨#[48, 49, 50, 51, 52, 53, 54, 55, 56, 57]⟩ : ByteArray).extract d.val (d.val + 1) = ⟨#[UInt8.ofNat (48 + d.val)]⟩ := by decide
  exact key ⟨d, h⟩
theorem div_facts (m q d : Nat) (hq : m / 10 = q) (hd : m % 10 = d) : (m : Int).tmod 10 = (d : Int) ∧ (m : Int) % 10 = (d : Int) ∧ (m : Int) / 10 = (q : Int) ∧ (m : Int).tdiv 10 = (q : Int) ∧ d < 10 := by
  have h0 : (0 : Int) ≤ (m : Int) := by omega
  refine ⟨by rw [Int.tmod_eq_emod_of_nonneg h0]; omega, by omega, by omega, by rw [Int.tdiv_eq_ediv_of_nonneg h0]; omega, by omega⟩
end Go.Proofs.YthlfeiiolafonaaDoor
