/- Rows that a call itself makes: which blocks may have turned (Fr), what append leaves (wpR_append), what string(b) reads. No function of the program is named here. -/
import Derived.Test.YtlnhhffhmeekoaaGreatDoorProg
import Derived.Maps.AppendAt
import Derived.Deep.AppendLies
import Derived.Laws.BytesArg
import Derived.Lib.ConvBytes
import Derived.WalkKit
import Derived.Lib.Hide
set_option linter.unusedVariables false
set_option linter.unusedSimpArgs false
namespace Go.Proofs.YtlnhhffhmeekoaaGreatDoor
open Go.RowKit

/-- of the blocks that were there, those that are not 'ok' are as they were -/
structure Fr (ok : Nat → Prop) (w w' : World) : Prop where
  os : w'.os = w.os
  tape : w'.tape = w.tape
  output : w'.output = w.output
  size : w.heap.size ≤ w'.heap.size
  block : ∀ k, k < w.heap.size → ¬ ok k → w'.heap[k]? = w.heap[k]?
theorem Fr.refl (ok : Nat → Prop) (w : World) : Fr ok w w := ⟨rfl, rfl, rfl, Nat.le_refl _, fun _ _ _ => rfl⟩
theorem Fr.trans {ok : Nat → Prop} {a b c : World} (h : Fr ok a b) (k : Fr ok b c) : Fr ok a c :=
  ⟨k.os.trans h.os, k.tape.trans h.tape, k.output.trans h.output, Nat.le_trans h.size k.size, fun i hi hn => (k.block i (Nat.lt_of_lt_of_le hi h.size) hn).trans (h.block i hi hn)⟩
theorem Fr.mono {ok ok' : Nat → Prop} {w w' : World} (h : Fr ok w w') (hk : ∀ k, k < w.heap.size → ok k → ok' k) : Fr ok' w w' :=
  ⟨h.os, h.tape, h.output, h.size, fun k hl hn => h.block k hl fun ho => hn (hk k hl ho)⟩
theorem Fr.drew {ok : Nat → Prop} {a w : World} (h : Fr ok a w) : Fr ok a w.drew := ⟨h.os, h.tape, h.output, h.size, h.block⟩
theorem Fr.alloc {ok : Nat → Prop} {a w : World} (h : Fr ok a w) (o : Obj) : Fr ok a (w.alloc o) :=
  h.trans ⟨rfl, rfl, rfl, by simp, fun k hk _ => Below.heap_alloc w o k hk⟩
theorem Fr.setCell {ok : Nat → Prop} {a w : World} (h : Fr ok a w) {p : Addr} (hp : ok p.block) (u : Value) : Fr ok a (w.setCell p u) :=
  h.trans ⟨rfl, rfl, rfl, by simp [World.setCell], fun k hk hn => Below.heap_setCell w p u k (fun e => hn (e ▸ hp))⟩
/-- a call that leaves all that was there -/
theorem Fr.below {ok : Nat → Prop} {a w w' : World} (h : Fr ok a w) (hb : Below w.heap.size w w') : Fr ok a w' :=
  h.trans ⟨hb.os, hb.tape, hb.output, hb.size, fun k hk _ => hb.block k hk⟩
theorem Fr.grown {ok : Nat → Prop} {a w w' : World} {row : Option Nat} (h : Fr ok a w) (hg : w.grownBy w' row) (hr : ∀ k, row = some k → ok k) : Fr ok a w' :=
  h.trans ⟨hg.os, hg.tape, hg.output, hg.size, fun k hk hn => hg.block k hk (fun e => hn (hr k e.symm))⟩
theorem Fr.of_below {ok : Nat → Prop} {w w' : World} (hb : Below w.heap.size w w') : Fr ok w w' := (Fr.refl ok w).below hb
theorem Fr.to_below {ok : Nat → Prop} {w w' : World} (h : Fr ok w w') (hn : ∀ k, k < w.heap.size → ¬ ok k) : Below w.heap.size w w' :=
  ⟨h.os, h.tape, h.output, h.size, fun k hk => h.block k hk (hn k hk)⟩
theorem Fr.cell {ok : Nat → Prop} {w w' : World} (h : Fr ok w w') {a : Addr} {v : Value} (hc : w.cell? a = some v) (hn : ¬ ok a.block) : w'.cell? a = some v :=
  (World.cell?_of_block (h.block a.block (World.block_lt_of_cell? w a hc) hn)).trans hc
theorem Fr.behind {ok : Nat → Prop} {w w0 w' : World} (h : Fr ok w0 w') (hb : Below w.heap.size w w0) (hn : ∀ k, k < w.heap.size → ¬ ok k) : Below w.heap.size w w' :=
  hb.trans ⟨h.os, h.tape, h.output, h.size, fun k hk => h.block k (Nat.lt_of_lt_of_le hk hb.size) (hn k hk)⟩
theorem bcell {w w' : World} (h : Below w.heap.size w w') {a : Addr} {v : Value} (hc : w.cell? a = some v) : w'.cell? a = some v :=
  (h.cell (World.block_lt_of_cell? w a hc)).trans hc
theorem bthen {w0 w w' : World} (h : Below w0.heap.size w0 w) (k : Below w.heap.size w w') : Below w0.heap.size w0 w' := h.trans (k.mono h.size)

/-- v is a slice of n elements (type e, sz cells each) that the call owns: its block is one of 'ok', its cells begin with cs -/
structure OwnR (e sz : Nat) (ok : Nat → Prop) (w : World) (v : Value) (n : Nat) (cs : List Value) : Prop where
  row : w.ownsRow 0 e sz v n cs
  blk : ∀ k, v.ownBlock = some k → ok k
section
variable {e sz : Nat} {ok : Nat → Prop} {w : World} {v : Value} {n : Nat} {cs : List Value}
theorem OwnR.nil (e sz : Nat) (ok : Nat → Prop) (w : World) : OwnR e sz ok w (.slice none 0 0) 0 [] := ⟨World.ownsRow_nil _ _ _ _, fun k hk => by simp [Value.ownBlock] at hk⟩
theorem OwnR.lit (e sz : Nat) (ok : Nat → Prop) (w : World) (cells : Array Value) (n : Nat) (hs : cells.size = n * sz) (hn : n ≤ 9223372036854775807) (hk : ok w.heap.size) :
    OwnR e sz ok (w.alloc (.cells cells e)) (.slice (some ⟨w.heap.size, 0, none⟩) n n) n cells.toList :=
  ⟨World.ownsRow_lit w cells n (Nat.zero_le _) (by unfold maxLen; omega) hs, fun k h => by simp [Value.ownBlock] at h; exact h ▸ hk⟩
theorem OwnR.lt (h : OwnR e sz ok w v n cs) : ∀ k, v.ownBlock = some k → k < w.heap.size := fun k hk => (h.row.lt k hk).2
/-- what turns its block not leaves it -/
theorem OwnR.move {w' : World} (h : OwnR e sz ok w v n cs) (hm : ∀ k, v.ownBlock = some k → w'.heap[k]? = w.heap[k]?) : OwnR e sz ok w' v n cs := by
  refine ⟨⟨h.row.1, ?_⟩, h.blk⟩
  rcases h.row.2 with h2 | ⟨g, cap, cur, rfl, hg, hh, r⟩
  · exact .inl h2
  · exact .inr ⟨g, cap, cur, rfl, hg, (hm g (by simp [Value.ownBlock])).trans hh, r⟩
theorem OwnR.below {w' : World} (h : OwnR e sz ok w v n cs) (hb : Below w.heap.size w w') : OwnR e sz ok w' v n cs := h.move fun k hk => hb.block k (h.lt k hk)
theorem OwnR.alloc (h : OwnR e sz ok w v n cs) (o : Obj) : OwnR e sz ok (w.alloc o) v n cs := h.move fun k hk => Below.heap_alloc w o k (h.lt k hk)
theorem OwnR.drew (h : OwnR e sz ok w v n cs) : OwnR e sz ok w.drew v n cs := h.move fun _ _ => rfl
theorem OwnR.fr {ok' : Nat → Prop} {w' : World} (h : OwnR e sz ok w v n cs) (hf : Fr ok' w w') (hne : ∀ k, ok k → ¬ ok' k) : OwnR e sz ok w' v n cs := h.move fun k hk => hf.block k (h.lt k hk) (hne k (h.blk k hk))
theorem OwnR.mono {ok' : Nat → Prop} (h : OwnR e sz ok w v n cs) (hk : ∀ k, k < w.heap.size → ok k → ok' k) : OwnR e sz ok' w v n cs := ⟨h.row, fun k hv => hk k (h.lt k hv) (h.blk k hv)⟩
theorem OwnR.len (h : OwnR e sz ok w v n cs) : cs.length = n * sz := h.row.1
theorem OwnR.slice (h : OwnR e sz ok w v n cs) : ∃ A c, v = .slice A n c ∧ n ≤ c := by
  rcases h.row.2 with ⟨rfl, hn⟩ | ⟨g, cap, cur, rfl, _, _, hl, _⟩
  · exact ⟨none, 0, by rw [hn], by omega⟩
  · exact ⟨_, cap, rfl, hl⟩
/-- its shape where there is an element -/
theorem OwnR.form (h : OwnR e sz ok w v n cs) (hn : 0 < n) : ∃ g cap, v = .slice (some ⟨g, 0, none⟩) n cap ∧ ok g ∧ n ≤ cap ∧ ∀ j u, cs[j]? = some u → w.cell? ⟨g, j, none⟩ = some u := by
  rcases h.row.2 with ⟨rfl, h0⟩ | ⟨g, cap, cur, rfl, _, hh, hl, _⟩
  · omega
  · refine ⟨g, cap, rfl, h.blk g rfl, hl, fun j u hj => ?_⟩
    have hc := h.row.cells (g := g) rfl j u hj
    have ha : (⟨g, 0, none⟩ : Addr).add j = ⟨g, j, none⟩ := by unfold Addr.add; split <;> simp_all
    rwa [ha] at hc
end

theorem size_alloc_le (W : World) (o : Obj) : W.heap.size ≤ (W.alloc o).heap.size := by rw [World.size_alloc]; omega

/-- append(v, x1, .., xm): the goal's world is 'W.alloc' of the box of the new ones -/
theorem opR_append {P : Program} {o : Oper} {a : Act} {Q : Exit → Act → World → Prop} {K : Act → World → Prop} {W : World} {ok : Nat → Prop} {n : Nat} {cs : List Value} {v : Value} {e sz bytes : Nat} {z : Value} (t : TypeId) (m : Nat) (news : List Value)
    (hinfo : (P.info? e).map (fun i => (i.zero, i.size, i.bytes)) = some (some z, sz, bytes)) (hz : z.cells.size = sz) (hsz : 0 < sz) (hby : 0 < bytes) (ht : P.underlying t = some (.slice e))
    (s x : Operand) (ho : o.op = .call { callee := .builtin .append, args := #[s, x], argTypes := #[t, t] })
    (cells : Array Value) (hc : cells = news.toArray) (c : Nat) (hs : a.eval s = v) (hx : a.eval x = .slice (some ⟨W.heap.size, 0, none⟩) m c) (hm : news.length = m * sz) (h1 : ∀ u ∈ news, u.oneCell' = true)
    (HO : OwnR e sz ok W v n cs) (hl : (n + m) * bytes ≤ 140737488355328) (hnew : ∀ k, W.heap.size ≤ k → ok k)
    (h : ∀ v1 w1, OwnR e sz ok w1 v1 (n + m) (cs ++ news) → W.grownBy w1 v.ownBlock → (∀ ok0 w0, Fr ok0 w0 W → (∀ k, v.ownBlock = some k → ok0 k) → Fr ok0 w0 w1) → K (a.put o.dst v1) w1) :
    Oper.wp P o a (W.alloc (.cells cells e)) K Q := by
  subst hc
  obtain ⟨i0, hi, hz0, hz1, hz2⟩ := info_parts hinfo
  have hnm : n + m ≤ 140737488355328 := Nat.le_trans (Nat.le_mul_of_pos_right _ hby) hl
  obtain ⟨v1, w1, hr, hown, hg, _, hat⟩ := run_append_own_at (P := P) (W.alloc (.cells news.toArray e)) 0 t o.type e i0 z sz bytes ht hi hz0 hz1 hz2 hz hsz v n cs (HO.row.alloc _) ⟨W.heap.size, 0, none⟩ m c news
    hm (World.news_of_block (cs := news.toArray) (t := e) (fr := (0, 0)) (Go.heap_alloc_new W _)) h1 (by unfold maxLen; omega) hl (Nat.zero_le _)
  unfold Oper.wp execOp
  simp only [ho, resolve, invoke, builtin, Sem.run_bind, Sem.run_pure, Result.andThen_ok, List.map_toArray, List.map_cons, List.map_nil, hs, hx, hr]
  have hg' : W.grownBy w1 v.ownBlock := ⟨hg.os, hg.tape, hg.output, Nat.le_trans (size_alloc_le _ _) hg.size, fun k hk hne => (hg.block k (by simp; omega) hne).trans (Below.heap_alloc W _ k hk)⟩
  refine h v1 w1 ⟨hown, fun k hk => ?_⟩ hg' (fun ok0 w0 hf hk => hf.grown hg' hk)
  rcases hat with hat | hat
  · exact HO.blk k (hat ▸ hk)
  · rw [hat] at hk
    injection hk with hk
    exact hnew k (by rw [← hk]; simp)

/-! a list of operations that the kernel can run as it stands -/
def runOps (P : Program) : List Oper → Act → World → Option (Act × World)
  | [], a, w => some (a, w)
  | o :: l, a, w =>
    match o.guard with
    | some _ => none
    | none =>
      match (execOp a.eval o).run P w with
      | .ok (.value v) w' => runOps P l (a.put o.dst v) w'
      | .ok .skip w' => runOps P l (a.put o.dst undef) w'
      | _ => none
theorem wpList_runOps {P : Program} {ops : Array Oper} {Q : Exit → Act → World → Prop} : ∀ (l : List Oper) (a : Act) (w : World) (a' : Act) (w' : World), runOps P l a w = some (a', w') → Q .normal a' w' → wpList P ops Q l a w
  | [], a, w, a', w', h, hq => by
    simp only [runOps, Option.some.injEq, Prod.mk.injEq] at h
    obtain ⟨rfl, rfl⟩ := h
    exact wpList_nil hq
  | o :: l, a, w, a', w', h, hq => by
    unfold runOps at h
    cases hg : o.guard with
    | some g => simp [hg] at h
    | none =>
      rw [hg] at h
      refine wpList_plain hg fun K hK => ?_
      unfold Oper.wp
      cases hr : (execOp a.eval o).run P w with
      | halt x w1 => simp [hr] at h
      | ok n w1 =>
        rw [hr] at h
        cases n with
        | value v => exact hK _ _ (wpList_runOps l _ _ a' w' h hq)
        | skip => exact hK _ _ (wpList_runOps l _ _ a' w' h hq)
        | _ => simp at h

/-- the same where one slot alone is wanted behind -/
theorem wpList_runTo1 {P : Program} {ops : Array Oper} {Q : Exit → Act → World → Prop} (l : List Oper) (a : Act) (w w' : World) (d : Nat) (v : Value)
    (h : (runOps P l a w).map (fun p => (p.1.tmps.getD d undef, p.1.defers.isEmpty, p.2)) = some (v, true, w'))
    (hq : ∀ a', a'.tmps.getD d undef = v → a'.defers = [] → Q .normal a' w') : wpList P ops Q l a w := by
  obtain ⟨⟨a', w1⟩, h1, h2⟩ := Option.map_eq_some_iff.1 h
  simp only [Prod.mk.injEq, List.isEmpty_iff] at h2
  obtain ⟨e1, e2, rfl⟩ := h2
  exact wpList_runOps l a w a' w1 h1 (hq a' e1 e2)

/-! rows of bytes -/
def bvals (l : List UInt8) : List Value := l.map fun c => .int .u8 (c.toNat : Int)
theorem bvals_len (l : List UInt8) : (bvals l).length = l.length := by simp [bvals]
theorem bvals_append (l k : List UInt8) : bvals (l ++ k) = bvals l ++ bvals k := by simp [bvals]
theorem bvals_one (l : List UInt8) : ∀ u ∈ bvals l, u.oneCell' = true := by
  intro u hu
  simp only [bvals, List.mem_map] at hu
  obtain ⟨_, _, rfl⟩ := hu
  rfl
theorem Tryz.infoU8 : (Tryz.prog.info? 5).map (fun i => (i.zero, i.size, i.bytes)) = some (some (.int .u8 0), 1, 1) := by kernel_rfl
def OwnB (ok : Nat → Prop) (w : World) (v : Value) (l : List UInt8) : Prop := OwnR 5 1 ok w v l.length (bvals l)
theorem OwnB.drew {ok : Nat → Prop} {w : World} {v : Value} {l : List UInt8} (h : OwnB ok w v l) : OwnB ok w.drew v l := OwnR.drew h
theorem OwnB.lit (ok : Nat → Prop) (w : World) (l : List UInt8) (cells : Array Value) (hc : cells = (bvals l).toArray) (n : Nat) (hn : n = l.length) (hl : l.length ≤ 1000000) (hk : ok w.heap.size) :
    OwnB ok (w.alloc (.cells cells 5)) (.slice (some ⟨w.heap.size, 0, none⟩) n n) l := by
  subst hc
  subst hn
  have h := OwnR.lit 5 1 ok w (bvals l).toArray l.length (by simp [bvals_len]) (by omega) hk
  simpa [OwnB] using h
theorem opB_append {o : Oper} {a : Act} {Q : Exit → Act → World → Prop} {K : Act → World → Prop} {W w0 : World} {ok : Nat → Prop} {l : List UInt8} (v : Value) (news : List UInt8)
    (s x : Operand) (ho : o.op = .call { callee := .builtin .append, args := #[s, x], argTypes := #[71, 71] })
    (cells : Array Value) (hc : cells = (bvals news).toArray) (m c : Nat) (hs : a.eval s = v) (hx : a.eval x = .slice (some ⟨W.heap.size, 0, none⟩) m c) (hm : news.length = m)
    (HO : OwnB ok W v l) (HF : Fr ok w0 W) (hl : l.length + m ≤ 140737488355328) (hnew : ∀ k, W.heap.size ≤ k → ok k)
    (h : ∀ v1 w1, OwnB ok w1 v1 (l ++ news) → Fr ok w0 w1 → K (a.put o.dst v1) w1) :
    Oper.wp Tryz.prog o a (W.alloc (.cells cells 5)) K Q := by
  refine opR_append 71 m (bvals news) Tryz.infoU8 rfl (by omega) (by omega) Tryz.underlying71 s x ho cells hc c hs hx (by rw [bvals_len]; omega) (bvals_one _) HO (by omega) hnew ?_
  intro v1 w1 h1 h2 h3
  refine h v1 w1 ?_ (h3 ok w0 HF HO.blk)
  unfold OwnB
  rw [bvals_append, List.length_append, hm]
  exact h1
/-- the same in a walk (behind 'at_builtin') .. -/
theorem wpB_append {ops : Array Oper} {rest : List Oper} {o : Oper} {a : Act} {Q : Exit → Act → World → Prop} {W w0 : World} {ok : Nat → Prop} {l : List UInt8} (v : Value) (news : List UInt8)
    (s x : Operand) (hgd : o.guard = none) (ho : o.op = .call { callee := .builtin .append, args := #[s, x], argTypes := #[71, 71] })
    (cells : Array Value) (hc : cells = (bvals news).toArray) (m c : Nat) (hs : a.eval s = v) (hx : a.eval x = .slice (some ⟨W.heap.size, 0, none⟩) m c) (hm : news.length = m)
    (HO : OwnB ok W v l) (HF : Fr ok w0 W) (hl : l.length + m ≤ 140737488355328) (hnew : ∀ k, W.heap.size ≤ k → ok k)
    (h : ∀ v1 w1, OwnB ok w1 v1 (l ++ news) → Fr ok w0 w1 → wpList Tryz.prog ops Q rest (a.put o.dst v1) w1) :
    wpList Tryz.prog ops Q (o :: rest) a (W.alloc (.cells cells 5)) :=
  wpList_plain hgd fun K hK => opB_append v news s x ho cells hc m c hs hx hm HO HF hl hnew fun v1 w1 h1 h2 => hK _ _ (h v1 w1 h1 h2)
/-- .. and in a region that draws its order -/
theorem stB_append {ops : Array Oper} {o : Oper} {a : Act} {Q : Exit → Act → World → Prop} {K : Act → World → Prop} {E : Prop} {W w0 : World} {ok : Nat → Prop} {l : List UInt8} (v : Value) (news : List UInt8)
    (s x : Operand) (hgd : o.guard = none) (ho : o.op = .call { callee := .builtin .append, args := #[s, x], argTypes := #[71, 71] })
    (cells : Array Value) (hc : cells = (bvals news).toArray) (m c : Nat) (hs : a.eval s = v) (hx : a.eval x = .slice (some ⟨W.heap.size, 0, none⟩) m c) (hm : news.length = m)
    (HO : OwnB ok W v l) (HF : Fr ok w0 W) (hl : l.length + m ≤ 140737488355328) (hnew : ∀ k, W.heap.size ≤ k → ok k)
    (h : ∀ v1 w1, OwnB ok w1 v1 (l ++ news) → Fr ok w0 w1 → K (a.put o.dst v1) w1) :
    if Region.wanted o (yielded ops a.tmps) = true then Oper.wp Tryz.prog o a (W.alloc (.cells cells 5)) K Q else E := by
  rw [if_pos (by simp [Region.wanted, hgd])]
  exact opB_append v news s x ho cells hc m c hs hx hm HO HF hl hnew h
/-- string(v) -/
theorem OwnB.toStr {ok : Nat → Prop} {w : World} {v : Value} {l : List UInt8} (h : OwnB ok w v l) : (convert 71 9 v).run Tryz.prog w = .ok (.string ⟨l.toArray⟩) w := by
  rcases h.row.2 with ⟨rfl, hn⟩ | ⟨g, cap, cur, rfl, _, hh, hl, _⟩
  · obtain rfl : l = [] := List.eq_nil_of_length_eq_zero hn
    exact run_convert_bytes_nil w 71 5 Tryz.underlying71 Tryz.underlying5 0 0 9 Tryz.underlying9
  · have hr := run_convert_bytes_arg (P := Tryz.prog) w 71 5 Tryz.underlying71 Tryz.underlying5 g 0 l.length cap (l.map fun c => (c.toNat : Int)) (by simp) (fun i hi => ?_) 9 Tryz.underlying9
    · rw [hr]
      have e1 : List.map ((fun n : Int => UInt8.ofNat n.toNat) ∘ fun c : UInt8 => (c.toNat : Int)) l = l := by
        rw [List.map_congr_left (g := id) (fun a _ => by simp)]
        simp
      simp only [strOfNums, List.map_map, e1]
    · have hc := h.row.cells (g := g) rfl i (.int .u8 ((l.map fun c => (c.toNat : Int)).getD i 0)) (by simp [bvals, List.getElem?_eq_getElem hi])
      have ha : (⟨g, 0, none⟩ : Addr).add i = ⟨g, 0 + i, none⟩ := by unfold Addr.add; split <;> simp_all
      rwa [ha] at hc

end Go.Proofs.YtlnhhffhmeekoaaGreatDoor
