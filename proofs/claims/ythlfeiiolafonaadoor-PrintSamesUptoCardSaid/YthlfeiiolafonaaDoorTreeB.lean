/- Contracts of the law's deep, copied: a value that reads as the same, in new memory. Contracts of the law's copied, tree, treeOf: a tree that reads as the same. -/
import Derived.Test.YthlfeiiolafonaaDoorStillB
import Derived.Test.YthlfeiiolafonaaDoorNodeRows
import Derived.Test.YthlfeiiolafonaaDoorBoxes
import Derived.Deep.AppendLies
import Derived.Test.YthlfeiiolafonaaDoorPrintCount
import Derived.Deep.RegionHeld3
set_option linter.unusedVariables false
set_option linter.unusedSimpArgs false
namespace Go.Proofs.YthlfeiiolafonaaDoor
open Go.RowKit Go.IntWalk Go.Sort

theorem wrap3 (n : Nat) (hn : n ≤ 16777216) : IntKind.i64.wrap ((n : Int) + 3) = ((n + 3 : Nat) : Int) := by
  have : ((n : Int) + 3) = ((n + 3 : Nat) : Int) := by omega
  rw [this]
  exact i64_in _ ⟨by omega, by omega⟩
theorem OwnR.self {e sz m : Nat} {w : World} {v : Value} {n : Nat} {cs : List Value} (h : OwnR e sz (fun b => m ≤ b) w v n cs) (S : Nat) : OwnR e sz (fun b => (m ≤ b ∧ some b = v.ownBlock) ∨ S ≤ b) w v n cs :=
  ⟨h.row, fun b hb => Or.inl ⟨h.blk b hb, hb.symm⟩⟩
theorem RdK.lt {ok : Nat → Prop} {w : World} {v : Value} {k : List (List UInt8)} (h : RdK ok w v k) : RdK (fun b => ok b ∧ b < w.heap.size) w v k :=
  ⟨h.1, fun i hi => by
    obtain ⟨g, o, h1, h2, h3⟩ := h.2 i hi
    exact ⟨g, o, h1.mono fun hk => ⟨hk, World.block_lt_of_cell? w _ h2⟩, h2, h3⟩⟩
theorem Elems.lt {ok : Nat → Prop} {w : World} {a : List Value} {l : List V} (h : Elems ok w a l) : Elems (fun b => ok b ∧ b < w.heap.size) w a l :=
  ⟨h.len, fun j hj => by obtain ⟨d0, d1, d2, d3, d4, e0, e1, e2, e3, e4, hr⟩ := h.at_ j hj; exact ⟨d0, d1, d2, d3, d4, e0, e1, e2, e3, e4, hr.lt⟩, h.one⟩
theorem mk_str (n : Nat) (hn : n ≤ 16777216) (w : World) : (Instr.makeSlice 23 (.int .i64 0) (.int .i64 (IntKind.i64.wrap ((n : Int) + 3)))).run Tryd.prog w = .ok (.slice (some ⟨w.heap.size, 0, none⟩) 0 (n + 3)) (w.alloc (.cells (madeCells #[.string ⟨#[]⟩] (n + 3)) 9)) := by
  obtain ⟨i, hi, hz0, hz1, hz2⟩ := info_parts infoStr
  have h := run_make (P := Tryd.prog) w 23 9 i _ Tryd.underlying23 hi hz0 .i64 .i64 0 ((n + 3 : Nat) : Int) (by omega) (by omega) (by rw [hz2]; omega) (by omega)
  rw [hz1] at h
  simp only [Int.toNat_natCast, Int.toNat_zero] at h
  rw [wrap3 n hn, h]
  simp [Value.cells]
theorem mk_val (n : Nat) (hn : n ≤ 16777216) (w : World) : (Instr.makeSlice 22 (.int .i64 0) (.int .i64 (IntKind.i64.wrap ((n : Int) + 3)))).run Tryd.prog w = .ok (.slice (some ⟨w.heap.size, 0, none⟩) 0 (n + 3)) (w.alloc (.cells (madeCells #[.int .i64 0, .int .i64 0, .string ⟨#[]⟩, .slice none 0 0, .slice none 0 0] ((n + 3) * 5)) 25)) := by
  obtain ⟨i, hi, hz0, hz1, hz2⟩ := info_parts infoVal
  have h := run_make (P := Tryd.prog) w 22 25 i _ Tryd.underlying22 hi hz0 .i64 .i64 0 ((n + 3 : Nat) : Int) (by omega) (by omega) (by rw [hz2]; omega) (by omega)
  rw [hz1] at h
  simp only [Int.toNat_natCast, Int.toNat_zero] at h
  rw [wrap3 n hn, h]
  simp [Value.cells]
theorem mk_val' (n : Nat) (hn : n ≤ 16777216) (w : World) : (Instr.makeSlice 22 (.int .i64 0) (.int .i64 ((n : Int) + 3))).run Tryd.prog w = .ok (.slice (some ⟨w.heap.size, 0, none⟩) 0 (n + 3)) (w.alloc (.cells (madeCells #[.int .i64 0, .int .i64 0, .string ⟨#[]⟩, .slice none 0 0, .slice none 0 0] ((n + 3) * 5)) 25)) := by
  have h := mk_val n hn w
  rw [wrap3 n hn] at h
  rw [show ((n : Int) + 3) = ((n + 3 : Nat) : Int) by omega]
  exact h
theorem own_made (e sz : Nat) (ok : Nat → Prop) (w : World) (z : Array Value) (c g : Nat) (hg : g = w.heap.size) (hc : c ≤ 140737488355328) (hz : z.size = c * sz) (hk : ok w.heap.size) : OwnR e sz ok (w.alloc (.cells z e)) (.slice (some ⟨g, 0, none⟩) 0 c) 0 [] := by
  subst hg
  exact ⟨World.ownsRow_made w _ c (Nat.zero_le _) (by unfold maxLen; omega) hz, fun k h => by simp [Value.ownBlock] at h; exact h ▸ hk⟩
abbrev zVal : Array Value := #[.int .i64 0, .int .i64 0, .string ⟨#[]⟩, .slice none 0 0, .slice none 0 0]
/-- deep's boxes: what is handed in, the result, the value that is made -/
structure DpB (w : World) (p q : Array Value) (W : World) : Prop where
  arg : Box w.heap.size p 25 W
  res : Box (w.heap.size + 1) zVal 25 W
  own : Box (w.heap.size + 2) q 25 W
  bel : Below w.heap.size w W
theorem DpB.new (w : World) (p q : Array Value) : DpB w p q (((w.alloc (.cells p 25)).alloc (.cells zVal 25)).alloc (.cells q 25)) := by
  have h1 := (Box.new w p 25)
  have h2 := (Box.new (w.alloc (.cells p 25)) zVal 25)
  have h3 := (Box.new ((w.alloc (.cells p 25)).alloc (.cells zVal 25)) q 25)
  simp only [World.size_alloc] at h2 h3
  exact ⟨(h1.below (one_al _ _)).below (one_al _ _), h2.below (one_al _ _), h3, ((one_al w _).alloc (by simp) _).alloc (by simp; omega) _⟩
theorem DpB.below {w : World} {p q : Array Value} {W W' : World} (h : DpB w p q W) (hb : Below W.heap.size W W') : DpB w p q W' := ⟨h.arg.below hb, h.res.below hb, h.own.below hb, bthen h.bel hb⟩
theorem DpB.fr {w : World} {p q : Array Value} {W W' : World} {ok : Nat → Prop} (h : DpB w p q W) (hf : Fr ok W W') (hn : ∀ b, b < w.heap.size + 3 → ¬ ok b) : DpB w p q W' :=
  ⟨h.arg.fr hf (hn _ (by omega)), h.res.fr hf (hn _ (by omega)), h.own.fr hf (hn _ (by omega)), hf.behind h.bel fun b hb => hn b (by omega)⟩
theorem DpB.set {w : World} {p q : Array Value} {W : World} (h : DpB w p q W) (i : Nat) (v : Value) : DpB w p (q.setIfInBounds i v) (W.setCell ⟨w.heap.size + 2, i, none⟩ v) :=
  ⟨h.arg.off (by omega) i v, h.res.off (by omega) i v, h.own.set i v, h.bel.setCell (Nat.le_add_right _ 2) _⟩
theorem DpB.size {w : World} {p q : Array Value} {W : World} (h : DpB w p q W) : w.heap.size + 3 ≤ W.heap.size := h.own.lt
theorem DpB.kept {w : World} {p q : Array Value} {W W' : World} {row : Option Nat} (h : DpB w p q W) (hg : W.grownBy W' row) (hr : ∀ k, row = some k → w.heap.size + 3 ≤ k) : DpB w p q W' :=
  h.fr ((Fr.refl (fun b => w.heap.size + 3 ≤ b) W).grown hg hr) (fun b hb hk => by omega)
/-- deep's loop: k parts are copied -/
structure DpI (w : World) (p : Array Value) (X : V) (k : Nat) (lv kv : Value) (W : World) : Prop where
  st : DpB w p #[.int .i64 X.kind, .int .i64 X.num, .string ⟨X.str.toArray⟩, lv, kv] W
  keys : RdK (fun b => w.heap.size + 3 ≤ b ∧ some b ≠ lv.ownBlock) W kv X.keys
  row : ∃ news, OwnR 25 5 (fun b => w.heap.size + 3 ≤ b) W lv k news ∧ Elems (fun b => w.heap.size + 3 ≤ b ∧ some b ≠ lv.ownBlock) W news (X.parts.take k)
theorem DpI.below {w : World} {p : Array Value} {X : V} {k : Nat} {lv kv : Value} {W W' : World} (h : DpI w p X k lv kv W) (hb : Below W.heap.size W W') : DpI w p X k lv kv W' := by
  obtain ⟨news, h1, h2⟩ := h.row
  exact ⟨h.st.below hb, h.keys.below hb, news, h1.below hb, h2.below hb⟩
/-- one part more: v2, w4: what append leaves -/
theorem DpI.step {w : World} {p : Array Value} {X : V} {k : Nat} {lv kv : Value} {w0 w3 w4 : World} (h : DpI w p X k lv kv w0) (hk : k < X.parts.length) (hb : Below w0.heap.size w0 w3) {c0 c1 c2 c3 c4 : Value} (hv : RdV (fun b => w0.heap.size ≤ b) w3 (.agg #[c0, c1, c2, c3, c4]) X.parts[k])
    {news : List Value} (hE : Elems (fun b => w.heap.size + 3 ≤ b ∧ some b ≠ lv.ownBlock) w0 news (X.parts.take k)) (hlt : ∀ b, lv.ownBlock = some b → b < w0.heap.size) {lv' : Value}
    (ho : OwnR 25 5 (fun b => (w.heap.size + 3 ≤ b ∧ some b = lv.ownBlock) ∨ w3.heap.size ≤ b) w4 lv' (k + 1) (news ++ [c0, c1, c2, c3, c4])) (hg : w3.grownBy w4 lv.ownBlock) (hr : ∀ b, lv.ownBlock = some b → w.heap.size + 3 ≤ b) :
    DpI w p X (k + 1) lv' kv (w4.setCell ⟨w.heap.size + 2, 3, none⟩ lv') := by
  have h3 : DpI w p X k lv kv w3 := h.below hb
  have hs0 := h.st.size
  have hs3 := hb.size
  have hfr : Fr (fun b => some b = lv.ownBlock ∨ w.heap.size + 2 = b) w3 (w4.setCell ⟨w.heap.size + 2, 3, none⟩ lv') := ((Fr.refl _ w3).grown hg (fun k hk => Or.inl hk.symm)).set1 (w.heap.size + 2) 3 (Or.inr rfl) lv'
  have hown : ∀ b, lv'.ownBlock = some b → (w.heap.size + 3 ≤ b ∧ some b = lv.ownBlock) ∨ w3.heap.size ≤ b := ho.blk
  have hne : ∀ b, b < w3.heap.size → some b ≠ lv.ownBlock → some b ≠ lv'.ownBlock := by
    intro b hb1 hb2 he
    rcases hown b he.symm with h1 | h1
    · exact hb2 h1.2
    · omega
  refine ⟨?_, ?_, news ++ [c0, c1, c2, c3, c4], ?_, ?_⟩
  · exact (h3.st.kept hg hr).set 3 lv'
  · refine ((h3.keys.lt).fr hfr ?_).imp ?_
    · rintro b _ hb1 (hb2 | hb2)
      · exact hb1.1.2 hb2
      · have := hb1.1.1; omega
    · exact fun b hb1 => ⟨hb1.1.1, hne b hb1.2 hb1.1.2⟩
  · refine (ho.fr (ok' := fun b => w.heap.size + 2 = b) ((Fr.refl _ w4).set1 (w.heap.size + 2) 3 rfl lv') ?_).mono ?_
    · rintro b (h1 | h1) h2
      · have := h1.1; omega
      · omega
    · rintro b _ (h1 | h1)
      · exact h1.1
      · omega
  · have hE3 : Elems (fun b => w.heap.size + 3 ≤ b ∧ some b ≠ lv.ownBlock ∧ b < w3.heap.size) w3 (news ++ [c0, c1, c2, c3, c4]) (X.parts.take k ++ [X.parts[k]]) := by
      refine Elems.snoc (((hE.lt).below hb).imp fun b hb1 => ⟨hb1.1.1, hb1.1.2, Nat.lt_of_lt_of_le hb1.2 hs3⟩) (hv.lt.imp fun b hb1 => ⟨by omega, fun he => ?_, hb1.2⟩)
      have := hlt b he.symm
      omega
    rw [List.take_succ_eq_append_getElem hk]
    refine (hE3.fr hfr ?_).imp ?_
    · rintro b _ hb1 (hb2 | hb2)
      · exact hb1.2.1 hb2
      · have := hb1.1; omega
    · exact fun b hb1 => ⟨hb1.1, hne b hb1.2.2 hb1.2.1⟩
theorem DpI.start0 {w : World} {p : Array Value} {X : V} {kv : Value} {W : World} (h : DpB w p #[.int .i64 X.kind, .int .i64 X.num, .string ⟨X.str.toArray⟩, .slice none 0 0, kv] W) (hk : RdK (fun b => w.heap.size + 3 ≤ b) W kv X.keys) : DpI w p X 0 (.slice none 0 0) kv W :=
  ⟨h, hk.imp fun b hb => ⟨hb, by simp [Value.ownBlock]⟩, [], OwnR.nil _ _ _ _, Elems.nil _ _⟩
theorem DpI.start {w : World} {p : Array Value} {X : V} {kv : Value} {W : World} (h : DpB w p #[.int .i64 X.kind, .int .i64 X.num, .string ⟨X.str.toArray⟩, .slice none 0 0, kv] W) (hk : RdK (fun b => w.heap.size + 3 ≤ b) W kv X.keys) (h5 : X.parts.length ≤ 16777216) :
    DpI w p X 0 (.slice (some ⟨W.heap.size, 0, none⟩) 0 (X.parts.length + 3)) kv ((W.alloc (.cells (madeCells zVal ((X.parts.length + 3) * 5)) 25)).setCell ⟨w.heap.size + 2, 3, none⟩ (.slice (some ⟨W.heap.size, 0, none⟩) 0 (X.parts.length + 3))) := by
  have hs := h.size
  have hfr : Fr (fun b => w.heap.size + 2 = b) (W.alloc (.cells (madeCells zVal ((X.parts.length + 3) * 5)) 25)) ((W.alloc (.cells (madeCells zVal ((X.parts.length + 3) * 5)) 25)).setCell ⟨w.heap.size + 2, 3, none⟩ (.slice (some ⟨W.heap.size, 0, none⟩) 0 (X.parts.length + 3))) := (Fr.refl _ _).set1 (w.heap.size + 2) 3 rfl _
  refine ⟨(h.below (one_al _ _)).set 3 _, ?_, [], ?_, Elems.nil _ _⟩
  · refine (((hk.lt).below (one_al _ _)).fr hfr ?_).imp ?_
    · intro b _ h1 h2; have := h1.1; omega
    · intro b h1
      refine ⟨h1.1, fun he => ?_⟩
      have := own_blk he.symm
      omega
  · exact (own_made 25 5 (fun k => w.heap.size + 3 ≤ k) W _ (X.parts.length + 3) _ rfl (by omega) (by simp [size_madeCells]) hs).fr hfr (fun b h1 h2 => by omega)
theorem five_res (g : Nat) (a0 a1 a2 a3 a4 : Value) (W : World) : Fr (fun b => g = b) W (((((W.setCell ⟨g, 0, none⟩ a0).setCell ⟨g, 1, none⟩ a1).setCell ⟨g, 2, none⟩ a2).setCell ⟨g, 3, none⟩ a3).setCell ⟨g, 4, none⟩ a4) :=
  (((((Fr.refl _ W).set1 g 0 rfl a0).set1 g 1 rfl a1).set1 g 2 rfl a2).set1 g 3 rfl a3).set1 g 4 rfl a4
theorem DpI.rd {w : World} {p : Array Value} {X : V} {lv kv : Value} {W : World} (h : DpI w p X X.parts.length lv kv W) (h0 : i64ok X.kind) (h1 : i64ok X.num) (h2 : X.str.length ≤ 16777216) (h3 : X.parts.length ≤ 16777216) :
    RdV (fun b => w.heap.size + 3 ≤ b) W (.agg #[.int .i64 X.kind, .int .i64 X.num, .string ⟨X.str.toArray⟩, lv, kv]) X := by
  obtain ⟨news, h4, h5⟩ := h.row
  rw [List.take_length] at h5
  have h6 := RdVs.own h4 (h5.imp fun b hb => hb.1)
  have h7 := h.keys.imp (ok' := fun b => w.heap.size + 3 ≤ b) fun b hb => hb.1
  have h8 := h4.slForm h3
  cases X with
  | mk kind n s l ks => exact RdV.close h0 h1 h2 h8 h6 h7
set_option maxRecDepth 20000 in
set_option maxHeartbeats 2000000 in
theorem law_deep (m : Nat) : ∀ (X : V) (v : Value) (ok : Nat → Prop) (w : World) (hv : RdV ok w v X) (hm : SizeOf.sizeOf X ≤ m),
    Calls Tryd.prog 34 #[v] w fun e w' => ∃ v', e = .returned v' ∧ RdV (fun b => w.heap.size ≤ b) w' v' X ∧ Below w.heap.size w w' := by
  induction m using Nat.strongRecOn with
  | _ m ih =>
  intro X v ok w hv hm
  obtain ⟨hk0, hk1, hk2, lv, kv, hvv, fa, la', ka'⟩ := hv.open
  obtain ⟨A, c, B, d, rfl, h1, h2, h3, h4, h5, h6, h7⟩ := hv.form
  injection hvv with hvv
  simp only [Array.mk.injEq, List.cons.injEq, and_true, true_and] at hvv
  obtain ⟨rfl, rfl⟩ := hvv
  have HL := Lib.hid la'
  have HK := Lib.hid ka'
  have Hm := Lib.hid hm
  have Hih := Lib.hid ih
  have HKL := Lib.hid (show ∀ i (hi : i < X.keys.length), (X.keys[i]).length ≤ 16777216 from fun i hi => by
    obtain ⟨_, _, _, _, _, h⟩ := HK.out.elem i hi
    exact h)
  clear hv fa la' ka' hm ih
  have HB := Lib.hid (DpB.new w #[.int .i64 X.kind, .int .i64 X.num, .string ⟨X.str.toArray⟩, .slice A X.parts.length c, .slice B X.keys.length d] #[.int .i64 X.kind, .int .i64 X.num, .string ⟨X.str.toArray⟩, .slice none 0 0, .slice none 0 0])
  have HO := Lib.hid (And.intro hk0 hk1)
  clear hk0 hk1
  go_enter Tryd.func34, Tryd.ntmps34
  go_upto_if 15 with fail
  go_cut [4] (fun t4 wx => ∃ kv, DpB w #[.int .i64 X.kind, .int .i64 X.num, .string ⟨X.str.toArray⟩, .slice A X.parts.length c, .slice B X.keys.length d] #[.int .i64 X.kind, .int .i64 X.num, .string ⟨X.str.toArray⟩, .slice none 0 0, kv] wx ∧ RdK (fun b => w.heap.size + 3 ≤ b) wx kv X.keys)
  case first =>
    by_cases hkn : 0 < X.keys.length
    · have hkA : (0 : Int) < (X.keys.length : Int) := by omega
      have mk1 := mk_str X.keys.length h6
      go_upto_region 3 with fail
      go_region_law (first
        | (refine step_append_gen rfl _ _ 23 rfl infoStr Tryd.underlying23 rfl (by decide) (by decide) rfl (own_made 9 1 (fun k => w.heap.size + 3 ≤ k) _ _ (X.keys.length + 3) _ (by simp) (by omega) (by simp [size_madeCells]) (by simp)).drew B X.keys.length d (kvals X.keys) rfl (kvals_len _) (RdK.news (HK.out.below (bthen HB.out.bel (one_al _ _)).drew)) (kvals_one _) (by omega) (fun k hk => by simp at hk; omega) ?_; intro v1 w1 g1 g2; rw [Nat.zero_add, List.nil_append] at g1; obtain ⟨A1, c1, rfl, _⟩ := g1.slice; have HB1 := Lib.hid ((HB.out.below (one_al _ _).drew).kept g2 (fun k hk => by have := own_blk hk; omega)); have G1 := Lib.hid g1; have e1 := HB1.out.own.cell 4 rfl; have e2 := HB1.out.own.melt 4; clear g1 g2))
      all_goals go_wp2_with fail
      all_goals go_meet
      all_goals exact ⟨_, HB1.out.set 4 _, RdK.own (G1.out.fr ((Fr.refl (fun b => w.heap.size + 2 = b) w1).set1 (w.heap.size + 2) 4 rfl _) (fun b hb he => by omega)) h6 HKL.out⟩
    · have hkA : ¬ (0 : Int) < (X.keys.length : Int) := by omega
      have Hk0 := Lib.hid (show X.keys = [] from List.length_eq_zero_iff.1 (by omega))
      go_wp2_with fail
      go_meet
      exact ⟨.slice none 0 0, HB.out, by rw [Hk0.out]; exact RdK.nil _ _ _ _ (by omega)⟩
  case rest =>
    obtain ⟨kv, hst, hkk⟩ := hcut
    have HS := Lib.hid hst
    have HKK := Lib.hid hkk
    have e3 := hst.arg.cell 3 rfl
    have q3 := fun x => (hst.own.below (one_al _ x)).cell 3 rfl
    have f3 := fun x => (hst.own.below (one_al _ x)).melt 3
    clear hst hkk
    go_upto_if 28 with fail
    go_cut [4] (fun t4 wx => ∃ lv, DpI w #[.int .i64 X.kind, .int .i64 X.num, .string ⟨X.str.toArray⟩, .slice A X.parts.length c, .slice B X.keys.length d] X 0 lv kv wx)
    case first =>
      by_cases hkn : 0 < X.parts.length
      · have hkA : (0 : Int) < (X.parts.length : Int) := by omega
        have mk1 := mk_val' X.parts.length h5
        go_wp2_with fail
        go_meet
        exact ⟨_, DpI.start HS.out HKK.out h5⟩
      · have hkA : ¬ (0 : Int) < (X.parts.length : Int) := by omega
        go_wp2_with fail
        go_meet
        exact ⟨_, DpI.start0 HS.out HKK.out⟩
    case rest =>
      obtain ⟨lv0, hI0⟩ := hcut
      have HI0 := Lib.hid hI0
      clear hI0 e3 q3 f3
      go_wp2_with fail
      go_loopw [4] (fun i wr => ∃ k : Nat, k ≤ X.parts.length ∧ i = .int .i64 (k : Int) ∧ ∃ lv, DpI w #[.int .i64 X.kind, .int .i64 X.num, .string ⟨X.str.toArray⟩, .slice A X.parts.length c, .slice B X.keys.length d] X k lv kv wr) (fun i _ => X.parts.length - (intOf i).toNat)
      case atStart => exact ⟨0, Nat.zero_le _, rfl, _, HI0.out⟩
      case round =>
        obtain ⟨k, hk, rfl, lv, hI⟩ := hrel
        have HI := Lib.hid hI
        have a3 := hI.st.arg.cell 3 rfl
        clear hI
        by_cases hlt : k < X.parts.length
        · have hlA : (k : Int) < (X.parts.length : Int) := by omega
          have h00 : (0 : Int) ≤ (k : Int) := by omega
          have hsz := V.sz_part hlt
          obtain ⟨g0, off, A', c', B', d', rfl, hog, hrd, e0, e1, e2, e3, e4⟩ := (HL.out.below HI.out.st.bel).elem k hlt
          have HY := Lib.hid (fun (W : World) (hv : RdV ok W (valV X.parts[k] A' c' B' d') X.parts[k]) => Hih.out (SizeOf.sizeOf X.parts[k]) (Nat.lt_of_lt_of_le hsz Hm.out) X.parts[k] (valV X.parts[k] A' c' B' d') ok W hv (Nat.le_refl _))
          have HRd := Lib.hid hrd
          have HStep := Lib.hid (fun (w0 w3 w4 : World) (h : DpI w #[.int .i64 X.kind, .int .i64 X.num, .string ⟨X.str.toArray⟩, .slice (some ⟨g0, off, none⟩) X.parts.length c, .slice B X.keys.length d] X k lv kv w0) => @DpI.step _ _ _ _ _ _ w0 w3 w4 h hlt)
          have Hlt := Lib.hid hlt
          have o3 := HI.out.st.own.cell 3 rfl
          obtain ⟨news, hrow, hel⟩ := HI.out.row
          obtain ⟨A2, c2, rfl, hc2⟩ := hrow.slice
          have HRow := Lib.hid hrow
          have HEl := Lib.hid hel
          generalize X.parts[k] = Y at *
          clear hrd hog hsz hrow hel hlt
          go_upto_region 9 with fail
          go_region_law (first
            | (refine step_append_gen rfl _ _ 22 rfl infoVal Tryd.underlying22 rfl (by decide) (by decide) rfl ((HR3.out.self w3.heap.size).alloc _) (some ⟨w3.heap.size, 0, none⟩) 1 1 [.int .i64 Y.kind, .int .i64 Y.num, .string ⟨Y.str.toArray⟩, .slice A5 Y.parts.length c5, .slice B5 Y.keys.length d5] rfl rfl (fun _ => ⟨_, _, rfl, fun j u hj => by rw [Nat.zero_add]; exact (Box.new w3 #[.int .i64 Y.kind, .int .i64 Y.num, .string ⟨Y.str.toArray⟩, .slice A5 Y.parts.length c5, .slice B5 Y.keys.length d5] 25).cell j (by simpa using hj)⟩) HV.out.ones (by have := Hlt.out; omega) (fun k hk => Or.inr (by simp at hk; omega)) ?_; intro v4 w4 g3 g4; obtain ⟨A6, c6, rfl, _⟩ := g3.slice; have G3 := Lib.hid g3; have G4 := Lib.hid ((World.grownBy_alloc w3 _ _).trans g4); have HB4 := Lib.hid (HI3.out.st.kept G4.out HRow.out.blk); have s1 := HB4.out.own.cell 3 rfl; have s2 := HB4.out.own.melt 3; clear g3 g4)
            | (go_simp; go_at_call 34; refine (HY.out _ (HRd.out.below (drew_b _))).mono ?_; rintro e w3 ⟨v', rfl, hv', hb⟩; obtain ⟨A5, c5, B5, d5, rfl, _⟩ := hv'.form; have HV := Lib.hid hv'; have HB3 := Lib.hid (bthen (drew_b wr) hb); have HI3 := Lib.hid (HI.out.below HB3.out); have HR3 := Lib.hid (HRow.out.below HB3.out); have p3 := HI3.out.st.own.cell 3 rfl; have p4 := fun x => (HI3.out.st.own.below (one_al _ x)).cell 3 rfl; clear hv' hb))
          all_goals go_wp2_with fail
          all_goals exact ⟨⟨k + 1, Hlt.out, by go_num, _, HStep.out wr w3 w4 HI.out HB3.out HV.out HEl.out (fun b hb => HRow.out.lt b hb) G3.out G4.out (fun b hb => HRow.out.blk b hb)⟩, by have := Hlt.out; simp [intOf]; omega⟩
        · have hlA : ¬ (k : Int) < (X.parts.length : Int) := by omega
          have hke : k = X.parts.length := by omega
          subst hke
          obtain ⟨c0, c1, c2, c3, c4⟩ := (show wr.cell? ⟨w.heap.size + 2, 0, none⟩ = some (.int .i64 X.kind) ∧ wr.cell? ⟨w.heap.size + 2, 1, none⟩ = some (.int .i64 X.num) ∧ wr.cell? ⟨w.heap.size + 2, 2, none⟩ = some (.string ⟨X.str.toArray⟩) ∧ wr.cell? ⟨w.heap.size + 2, 3, none⟩ = some lv ∧ wr.cell? ⟨w.heap.size + 2, 4, none⟩ = some kv from ⟨HI.out.st.own.cell 0 rfl, HI.out.st.own.cell 1 rfl, HI.out.st.own.cell 2 rfl, HI.out.st.own.cell 3 rfl, HI.out.st.own.cell 4 rfl⟩)
          have d0 := HI.out.st.res.cell 0 rfl
          have d1 := HI.out.st.res.cell 1 rfl
          have d2 := HI.out.st.res.cell 2 rfl
          have d3 := HI.out.st.res.cell 3 rfl
          have d4 := HI.out.st.res.cell 4 rfl
          have m0 := HI.out.st.res.melt 0
          have m1 := HI.out.st.res.melt 1
          have m2 := HI.out.st.res.melt 2
          have m3 := HI.out.st.res.melt 3
          have m4 := HI.out.st.res.melt 4
          obtain ⟨A2, c2', rfl, _⟩ : ∃ A2 c2, lv = .slice A2 X.parts.length c2 ∧ True := by
            obtain ⟨news, hrow, _⟩ := HI.out.row
            obtain ⟨A2, c2, h, _⟩ := hrow.slice
            exact ⟨A2, c2, h, trivial⟩
          obtain ⟨A3, c3', rfl, _⟩ := HI.out.keys.1
          clear hk hlt
          go_wp2_with fail
          refine bodyPost_ret (v := .agg #[.int .i64 X.kind, .int .i64 X.num, .string ⟨X.str.toArray⟩, .slice A2 X.parts.length c2', .slice A3 X.keys.length c3']) (by simp [results, Tryd.results34, go_sem, c0, c1, c2, c3, c4, d0, d1, d2, d3, d4]) rfl ⟨_, rfl, ((HI.out.rd HO.out.1 HO.out.2 h7 h5).fr (five_res (w.heap.size + 1) _ _ _ _ _ wr) (fun b _ h1 h2 => by omega)).imp (fun b hb => by omega), ?_⟩
          exact ((five_res (w.heap.size + 1) _ _ _ _ _ wr)).behind HI.out.st.bel (fun b hb => by omega)
end Go.Proofs.YthlfeiiolafonaaDoor
namespace Go.Proofs.YthlfeiiolafonaaDoor
open Go.RowKit Go.IntWalk Go.Sort

/-- two boxes: what is handed in, the result -/
structure TwoB (w : World) (p z : Array Value) (t : TypeId) (W : World) : Prop where
  arg : Box w.heap.size p t W
  res : Box (w.heap.size + 1) z t W
  bel : Below w.heap.size w W
theorem TwoB.new (w : World) (p z : Array Value) (t : TypeId) : TwoB w p z t ((w.alloc (.cells p t)).alloc (.cells z t)) := by
  have h1 := (Box.new w p t)
  have h2 := (Box.new (w.alloc (.cells p t)) z t)
  simp only [World.size_alloc] at h2
  exact ⟨h1.below (one_al _ _), h2, (one_al w _).alloc (by simp) _⟩
theorem TwoB.below {w : World} {p z : Array Value} {t : TypeId} {W W' : World} (h : TwoB w p z t W) (hb : Below W.heap.size W W') : TwoB w p z t W' := ⟨h.arg.below hb, h.res.below hb, bthen h.bel hb⟩
theorem five_cells {g : Nat} {c0 c1 c2 c3 c4 : Value} {t : TypeId} {W : World} (h : Box g #[c0, c1, c2, c3, c4] t W) : W.cell? ⟨g, 0, none⟩ = some c0 ∧ W.cell? ⟨g, 1, none⟩ = some c1 ∧ W.cell? ⟨g, 2, none⟩ = some c2 ∧ W.cell? ⟨g, 3, none⟩ = some c3 ∧ W.cell? ⟨g, 4, none⟩ = some c4 :=
  ⟨h.cell 0 rfl, h.cell 1 rfl, h.cell 2 rfl, h.cell 3 rfl, h.cell 4 rfl⟩
theorem five_melt {g : Nat} {cs : Array Value} {t : TypeId} {W : World} (h : Box g cs t W) : W.frozen? ⟨g, 0, none⟩ = false ∧ W.frozen? ⟨g, 1, none⟩ = false ∧ W.frozen? ⟨g, 2, none⟩ = false ∧ W.frozen? ⟨g, 3, none⟩ = false ∧ W.frozen? ⟨g, 4, none⟩ = false :=
  ⟨h.melt 0, h.melt 1, h.melt 2, h.melt 3, h.melt 4⟩
set_option maxRecDepth 20000 in
set_option maxHeartbeats 2000000 in
theorem law_copied (X : V) (v : Value) (ok : Nat → Prop) (w : World) (hv : RdV ok w v X) :
    Calls Tryd.prog 18 #[v] w fun e w' => ∃ v', e = .returned v' ∧ RdV (fun b => ok b ∨ w.heap.size ≤ b) w' v' X ∧ Below w.heap.size w w' := by
  obtain ⟨A, c, B, d, rfl, h1, h2, h3, h4, h5, h6, h7⟩ := hv.form
  have HV := Lib.hid hv
  have HB := Lib.hid (TwoB.new w #[.int .i64 X.kind, .int .i64 X.num, .string ⟨X.str.toArray⟩, .slice A X.parts.length c, .slice B X.keys.length d] zVal 25)
  clear hv
  go_enter Tryd.func18, Tryd.ntmps18
  go_wp2_with fail
  refine (law_few X (valV X A c B d) ok _ (HV.out.below HB.out.bel)).mono ?_
  rintro e w1 ⟨rfl, hb⟩
  have HB1 := Lib.hid (HB.out.below hb)
  obtain ⟨c0, c1, c2, c3, c4⟩ := five_cells HB1.out.arg
  clear hb
  generalize decide (vsize X ≤ 5000) = q
  cases q with
  | false =>
    obtain ⟨d0, d1, d2, d3, d4⟩ := five_cells HB1.out.res
    obtain ⟨m0, m1, m2, m3, m4⟩ := five_melt HB1.out.res
    go_wp2_with fail
    refine bodyPost_ret (v := valV X A c B d) (by simp [results, Tryd.results18, go_sem, c0, c1, c2, c3, c4, d0, d1, d2, d3, d4, valV]) rfl ⟨_, rfl, ((HV.out.lt.below HB1.out.bel).fr (five_res (w.heap.size + 1) _ _ _ _ _ w1) (fun b _ h1 h2 => by have := h1.2; omega)).imp (fun b hb => Or.inl hb.1), (five_res (w.heap.size + 1) _ _ _ _ _ w1).behind HB1.out.bel (fun b hb => by omega)⟩
  | true =>
    go_wp2_with fail
    refine (law_deep _ X (valV X A c B d) ok _ (HV.out.below HB1.out.bel) (Nat.le_refl _)).mono ?_
    rintro e w2 ⟨v', rfl, hv', hb2⟩
    have HB2 := Lib.hid (HB1.out.below hb2)
    have HV2 := Lib.hid hv'
    obtain ⟨A5, c5, B5, d5, rfl, _⟩ := hv'.form
    have hsz := HB1.out.res.lt
    clear c0 c1 c2 c3 c4 hv' hb2
    obtain ⟨d0, d1, d2, d3, d4⟩ := five_cells HB2.out.res
    obtain ⟨m0, m1, m2, m3, m4⟩ := five_melt HB2.out.res
    go_wp2_with fail
    refine bodyPost_ret (v := valV X A5 c5 B5 d5) (by simp [results, Tryd.results18, go_sem, d0, d1, d2, d3, d4, valV]) rfl ⟨_, rfl, (HV2.out.fr (five_res (w.heap.size + 1) _ _ _ _ _ w2) (fun b _ h1 h2 => by omega)).imp (fun b hb => Or.inr (by omega)), (five_res (w.heap.size + 1) _ _ _ _ _ w2).behind HB2.out.bel (fun b hb => by omega)⟩

theorem mk_node (n : Nat) (hn : n ≤ 16777216) (w : World) : (Instr.makeSlice 26 (.int .i64 0) (.int .i64 ((n : Int) + 2))).run Tryd.prog w = .ok (.slice (some ⟨w.heap.size, 0, none⟩) 0 (n + 2)) (w.alloc (.cells (madeCells zNode ((n + 2) * 10)) 28)) := by
  obtain ⟨i, hi, hz0, hz1, hz2⟩ := info_parts infoNode
  have h := run_make (P := Tryd.prog) w 26 28 i _ Tryd.underlying26 hi hz0 .i64 .i64 0 ((n + 2 : Nat) : Int) (by omega) (by omega) (by rw [hz2]; omega) (by omega)
  rw [hz1] at h
  simp only [Int.toNat_natCast, Int.toNat_zero] at h
  rw [show ((n : Int) + 2) = ((n + 2 : Nat) : Int) by omega, h]
  simp [Value.cells]
theorem OwnR.selfP {e sz : Nat} {P : Nat → Prop} {w : World} {v : Value} {n : Nat} {cs : List Value} (h : OwnR e sz P w v n cs) (S : Nat) : OwnR e sz (fun b => (P b ∧ some b = v.ownBlock) ∨ S ≤ b) w v n cs :=
  ⟨h.row, fun b hb => Or.inl ⟨h.blk b hb, hb.symm⟩⟩
theorem NElems.lt {ok : Nat → Prop} {w : World} {a : List Value} {l : List N} (h : NElems ok w a l) : NElems (fun b => ok b ∧ b < w.heap.size) w a l :=
  ⟨h.len, fun j hj => by obtain ⟨cs, e0, e1, hr⟩ := h.at_ j hj; exact ⟨cs, e0, e1, hr.lt⟩, h.one⟩
/-- tree's loop: the box g is the node that is made; k of its kids are there -/
structure TrI (ok : Nat → Prop) (w : World) (p : Array Value) (n : N) (g : Nat) (A5 : Option Addr) (c5 : Nat) (B5 : Option Addr) (d5 : Nat) (k : Nat) (lv : Value) (W : World) : Prop where
  st : TwoB w p zNode 28 W
  own : Box g #[.int .i64 n.kind, .string ⟨n.text.toArray⟩, .int .i64 n.val.kind, .int .i64 n.val.num, .string ⟨n.val.str.toArray⟩, .slice A5 n.val.parts.length c5, .slice B5 n.val.keys.length d5, .bool n.flag, lv, .int .i64 n.spot] 28 W
  two : w.heap.size + 2 ≤ g
  val : RdV (fun b => ((ok b ∧ b < w.heap.size) ∨ w.heap.size + 2 ≤ b) ∧ b ≠ g ∧ some b ≠ lv.ownBlock) W (valV n.val A5 c5 B5 d5) n.val
  row : ∃ news, OwnR 28 10 (fun b => w.heap.size + 2 ≤ b ∧ b ≠ g) W lv k news ∧ NElems (fun b => ((ok b ∧ b < w.heap.size) ∨ w.heap.size + 2 ≤ b) ∧ b ≠ g ∧ some b ≠ lv.ownBlock) W news (n.kids.take k)
theorem TrI.below {ok : Nat → Prop} {w : World} {p : Array Value} {n : N} {g : Nat} {A5 : Option Addr} {c5 : Nat} {B5 : Option Addr} {d5 : Nat} {k : Nat} {lv : Value} {W W' : World} (h : TrI ok w p n g A5 c5 B5 d5 k lv W) (hb : Below W.heap.size W W') : TrI ok w p n g A5 c5 B5 d5 k lv W' := by
  obtain ⟨news, h1, h2⟩ := h.row
  exact ⟨h.st.below hb, h.own.below hb, h.two, h.val.below hb, news, h1.below hb, h2.below hb⟩
theorem TwoB.fr {w : World} {p z : Array Value} {t : TypeId} {W W' : World} {ok : Nat → Prop} (h : TwoB w p z t W) (hf : Fr ok W W') (hn : ∀ b, b < w.heap.size + 2 → ¬ ok b) : TwoB w p z t W' :=
  ⟨h.arg.fr hf (hn _ (by omega)), h.res.fr hf (hn _ (by omega)), hf.behind h.bel fun b hb => hn b (by omega)⟩
theorem TrI.step {ok : Nat → Prop} {w : World} {p : Array Value} {n : N} {g : Nat} {A5 : Option Addr} {c5 : Nat} {B5 : Option Addr} {d5 : Nat} {k : Nat} {lv : Value} {w0 w3 w4 : World} (h : TrI ok w p n g A5 c5 B5 d5 k lv w0) (hk : k < n.kids.length) (hb : Below w0.heap.size w0 w3)
    {cs : List Value} (hcs : cs.length = 10) (hv : RdN (fun b => (ok b ∧ b < w.heap.size) ∨ w0.heap.size ≤ b) w3 (.agg cs.toArray) n.kids[k])
    {news : List Value} (hE : NElems (fun b => ((ok b ∧ b < w.heap.size) ∨ w.heap.size + 2 ≤ b) ∧ b ≠ g ∧ some b ≠ lv.ownBlock) w0 news (n.kids.take k)) (hlt : ∀ b, lv.ownBlock = some b → b < w0.heap.size) {lv' : Value}
    (ho : OwnR 28 10 (fun b => ((w.heap.size + 2 ≤ b ∧ b ≠ g) ∧ some b = lv.ownBlock) ∨ w3.heap.size ≤ b) w4 lv' (k + 1) (news ++ cs)) (hg : w3.grownBy w4 lv.ownBlock) (hr : ∀ b, lv.ownBlock = some b → w.heap.size + 2 ≤ b ∧ b ≠ g) :
    TrI ok w p n g A5 c5 B5 d5 (k + 1) lv' (w4.setCell ⟨g, 8, none⟩ lv') := by
  have h3 : TrI ok w p n g A5 c5 B5 d5 k lv w3 := h.below hb
  have hg0 := h.own.lt
  have hg2 := h.two
  have hs3 := hb.size
  have hgr : Fr (fun b => some b = lv.ownBlock ∨ g = b) w3 w4 := (Fr.refl _ w3).grown hg (fun k hk => Or.inl hk.symm)
  have hfr : Fr (fun b => some b = lv.ownBlock ∨ g = b) w3 (w4.setCell ⟨g, 8, none⟩ lv') := hgr.set1 g 8 (Or.inr rfl) lv'
  have hown : ∀ b, lv'.ownBlock = some b → ((w.heap.size + 2 ≤ b ∧ b ≠ g) ∧ some b = lv.ownBlock) ∨ w3.heap.size ≤ b := ho.blk
  have hne : ∀ b, b < w3.heap.size → some b ≠ lv.ownBlock → some b ≠ lv'.ownBlock := by
    intro b hb1 hb2 he
    rcases hown b he.symm with h1 | h1
    · exact hb2 h1.2
    · omega
  refine ⟨?_, ?_, h.two, ?_, news ++ cs, ?_, ?_⟩
  · refine h3.st.fr hfr ?_
    rintro b hb1 (hb2 | hb2)
    · have := (hr b hb2.symm).1; omega
    · omega
  · refine (h3.own.of (hg.block g (Nat.lt_of_lt_of_le hg0 hs3) ?_)).set 8 lv'
    intro he
    exact (hr g he.symm).2 rfl
  · refine ((h3.val.lt).fr hfr ?_).imp ?_
    · rintro b _ hb1 (hb2 | hb2)
      · exact hb1.1.2.2 hb2
      · exact hb1.1.2.1 hb2.symm
    · exact fun b hb1 => ⟨hb1.1.1, hb1.1.2.1, hne b hb1.2 hb1.1.2.2⟩
  · refine (ho.fr (ok' := fun b => g = b) ((Fr.refl _ w4).set1 g 8 rfl lv') ?_).mono ?_
    · rintro b (h1 | h1) h2
      · exact h1.1.2 h2.symm
      · omega
    · rintro b _ (h1 | h1)
      · exact h1.1
      · exact ⟨by omega, by omega⟩
  · have hE3 : NElems (fun b => ((ok b ∧ b < w.heap.size) ∨ w.heap.size + 2 ≤ b) ∧ b ≠ g ∧ some b ≠ lv.ownBlock ∧ b < w3.heap.size) w3 (news ++ cs) (n.kids.take k ++ [n.kids[k]]) := by
      refine NElems.snoc (((hE.lt).below hb).imp fun b hb1 => ⟨hb1.1.1, hb1.1.2.1, hb1.1.2.2, Nat.lt_of_lt_of_le hb1.2 hs3⟩) hcs (hv.lt.imp fun b hb1 => ⟨?_, ?_, fun he => ?_, hb1.2⟩)
      · rcases hb1.1 with h1 | h1
        · exact Or.inl h1
        · exact Or.inr (by omega)
      · rcases hb1.1 with h1 | h1
        · have := h1.2; omega
        · omega
      · have h1 := hlt b he.symm
        have h2 := (hr b he.symm).1
        rcases hb1.1 with h3 | h3
        · have := h3.2; omega
        · omega
    rw [List.take_succ_eq_append_getElem hk]
    refine (hE3.fr hfr ?_).imp ?_
    · rintro b _ hb1 (hb2 | hb2)
      · exact hb1.2.2.1 hb2
      · exact hb1.2.1 hb2.symm
    · exact fun b hb1 => ⟨hb1.1, hb1.2.1, hne b hb1.2.2.2 hb1.2.2.1⟩
/-- the beginning: no kids are to come -/
theorem TrI.start0 {ok : Nat → Prop} {w : World} {p : Array Value} {n : N} {A5 : Option Addr} {c5 : Nat} {B5 : Option Addr} {d5 : Nat} {W : World} (h : TwoB w p zNode 28 W) (hv : RdV (fun b => (ok b ∧ b < w.heap.size) ∨ w.heap.size + 2 ≤ b) W (valV n.val A5 c5 B5 d5) n.val) :
    TrI ok w p n W.heap.size A5 c5 B5 d5 0 (.slice none 0 0) (W.alloc (.cells #[.int .i64 n.kind, .string ⟨n.text.toArray⟩, .int .i64 n.val.kind, .int .i64 n.val.num, .string ⟨n.val.str.toArray⟩, .slice A5 n.val.parts.length c5, .slice B5 n.val.keys.length d5, .bool n.flag, .slice none 0 0, .int .i64 n.spot] 28)) :=
  ⟨h.below (one_al _ _), Box.new _ _ _, h.res.lt, (hv.lt.below (one_al _ _)).imp fun b hb => ⟨hb.1, by omega, by simp [Value.ownBlock]⟩, [], OwnR.nil _ _ _ _, NElems.nil _ _⟩
/-- the same where the box was there ahead of the value -/
theorem TrI.start1 {ok : Nat → Prop} {w : World} {p : Array Value} {n : N} {A5 : Option Addr} {c5 : Nat} {B5 : Option Addr} {d5 : Nat} {W : World} (h : TwoB w p zNode 28 W) (hv : RdV (fun b => (ok b ∧ b < w.heap.size) ∨ w.heap.size + 3 ≤ b) W (valV n.val A5 c5 B5 d5) n.val) (hg : Box (w.heap.size + 2) zNode 28 W) :
    TrI ok w p n (w.heap.size + 2) A5 c5 B5 d5 0 (.slice none 0 0) ((((((((((W.setCell ⟨w.heap.size + 2, 0, none⟩ (.int .i64 n.kind)).setCell ⟨w.heap.size + 2, 1, none⟩ (.string ⟨n.text.toArray⟩)).setCell ⟨w.heap.size + 2, 2, none⟩ (.int .i64 n.val.kind)).setCell ⟨w.heap.size + 2, 3, none⟩ (.int .i64 n.val.num)).setCell ⟨w.heap.size + 2, 4, none⟩ (.string ⟨n.val.str.toArray⟩)).setCell ⟨w.heap.size + 2, 5, none⟩ (.slice A5 n.val.parts.length c5)).setCell ⟨w.heap.size + 2, 6, none⟩ (.slice B5 n.val.keys.length d5)).setCell ⟨w.heap.size + 2, 7, none⟩ (.bool n.flag)).setCell ⟨w.heap.size + 2, 8, none⟩ (.slice none 0 0)).setCell ⟨w.heap.size + 2, 9, none⟩ (.int .i64 n.spot)) := by
  have hf := ten_res (w.heap.size + 2) (.int .i64 n.kind) (.string ⟨n.text.toArray⟩) (.int .i64 n.val.kind) (.int .i64 n.val.num) (.string ⟨n.val.str.toArray⟩) (.slice A5 n.val.parts.length c5) (.slice B5 n.val.keys.length d5) (.bool n.flag) (.slice none 0 0) (.int .i64 n.spot) W
  refine ⟨h.fr hf (fun b hb he => by omega), ten_set hg _ _ _ _ _ _ _ _ _ _, Nat.le_refl _, (hv.fr hf ?_).imp ?_, [], OwnR.nil _ _ _ _, NElems.nil _ _⟩
  · rintro b _ (h1 | h1) h2
    · have := h1.2; omega
    · omega
  · rintro b (h1 | h1)
    · exact ⟨Or.inl h1, by have := h1.2; omega, by simp [Value.ownBlock]⟩
    · exact ⟨Or.inr (by omega), by omega, by simp [Value.ownBlock]⟩
/-- a row of room is made -/
theorem TrI.room {ok : Nat → Prop} {w : World} {p : Array Value} {n : N} {g : Nat} {A5 : Option Addr} {c5 : Nat} {B5 : Option Addr} {d5 : Nat} {W : World} (h : TrI ok w p n g A5 c5 B5 d5 0 (.slice none 0 0) W) (h5 : n.kids.length ≤ 16777216) :
    TrI ok w p n g A5 c5 B5 d5 0 (.slice (some ⟨W.heap.size, 0, none⟩) 0 (n.kids.length + 2)) ((W.alloc (.cells (madeCells zNode ((n.kids.length + 2) * 10)) 28)).setCell ⟨g, 8, none⟩ (.slice (some ⟨W.heap.size, 0, none⟩) 0 (n.kids.length + 2))) := by
  have hg := h.own.lt
  have hg2 := h.two
  have hfr : Fr (fun b => g = b) (W.alloc (.cells (madeCells zNode ((n.kids.length + 2) * 10)) 28)) ((W.alloc (.cells (madeCells zNode ((n.kids.length + 2) * 10)) 28)).setCell ⟨g, 8, none⟩ (.slice (some ⟨W.heap.size, 0, none⟩) 0 (n.kids.length + 2))) := (Fr.refl _ _).set1 g 8 rfl _
  refine ⟨(h.st.below (one_al _ _)).fr hfr (fun b hb he => by omega), (h.own.below (one_al _ _)).set 8 _, h.two, ?_, [], ?_, NElems.nil _ _⟩
  · refine (((h.val.lt).below (one_al _ _)).fr hfr ?_).imp ?_
    · intro b _ h1 h2; exact h1.1.2.1 h2.symm
    · intro b h1
      refine ⟨h1.1.1, h1.1.2.1, fun he => ?_⟩
      have := own_blk he.symm
      omega
  · exact (own_made 28 10 (fun k => w.heap.size + 2 ≤ k ∧ k ≠ g) W _ (n.kids.length + 2) _ rfl (by omega) (by simp [size_madeCells]) ⟨by omega, by omega⟩).fr hfr (fun b h1 h2 => h1.2 h2.symm)
theorem TrI.rd {ok : Nat → Prop} {w : World} {p : Array Value} {n : N} {g : Nat} {A5 : Option Addr} {c5 : Nat} {B5 : Option Addr} {d5 : Nat} {K : Option Addr} {e : Nat} {W : World} (h : TrI ok w p n g A5 c5 B5 d5 n.kids.length (.slice K n.kids.length e) W) (h0 : i64ok n.kind) (h1 : i64ok n.spot) (h2 : n.text.length ≤ 16777216) (h3 : n.kids.length ≤ 16777216) :
    RdN (fun b => (ok b ∧ b < w.heap.size) ∨ w.heap.size + 2 ≤ b) W (valN n A5 c5 B5 d5 K e) n := by
  obtain ⟨news, h4, h5⟩ := h.row
  rw [List.take_length] at h5
  have h6 := RdNs.own (ok := fun b => (ok b ∧ b < w.heap.size) ∨ w.heap.size + 2 ≤ b) (h4.mono fun k _ hk => Or.inr hk.1) (h5.imp fun b hb => hb.1)
  have h8 := h4.slForm h3
  obtain ⟨K', e', hK, q1, q2, q3⟩ := h8
  injection hK with hK1 hK2 hK3
  subst hK3
  exact NodeRd.rd ⟨h0, h1, h2, h.val.imp fun b hb => hb.1, h6, q1, q2, q3⟩
set_option maxRecDepth 20000 in
set_option maxHeartbeats 4000000 in
theorem law_tree (m : Nat) : ∀ (n : N) (v : Value) (ok : Nat → Prop) (w : World) (hv : RdN ok w v n) (hm : SizeOf.sizeOf n ≤ m),
    Calls Tryd.prog 9 #[v] w fun e w' => ∃ v', e = .returned v' ∧ RdN (fun b => ok b ∨ w.heap.size ≤ b) w' v' n ∧ Below w.heap.size w w' := by
  induction m using Nat.strongRecOn with
  | _ m ih =>
  intro n v ok w hv hm
  obtain ⟨A, c, B, d, K, e, rfl, hn⟩ := hv.form
  have HV := Lib.hid hn.val
  have HL := Lib.hid hn.kids
  have HO := Lib.hid (And.intro hn.kind (And.intro hn.spot hn.text))
  have hlen := hn.len
  have hcap := hn.cap
  have hmost := hn.most
  have Hm := Lib.hid hm
  have Hih := Lib.hid ih
  have HB := Lib.hid (TwoB.new w #[.int .i64 n.kind, .string ⟨n.text.toArray⟩, .int .i64 n.val.kind, .int .i64 n.val.num, .string ⟨n.val.str.toArray⟩, .slice A n.val.parts.length c, .slice B n.val.keys.length d, .bool n.flag, .slice K n.kids.length e, .int .i64 n.spot] zNode 28)
  have hg3 := Box.new ((w.alloc (.cells #[.int .i64 n.kind, .string ⟨n.text.toArray⟩, .int .i64 n.val.kind, .int .i64 n.val.num, .string ⟨n.val.str.toArray⟩, .slice A n.val.parts.length c, .slice B n.val.keys.length d, .bool n.flag, .slice K n.kids.length e, .int .i64 n.spot] 28)).alloc (.cells zNode 28)) zNode 28
  simp only [World.size_alloc] at hg3
  have HG := Lib.hid hg3
  clear hg3
  clear hv hn hm ih
  go_enter Tryd.func9, Tryd.ntmps9
  go_upto_region 1 with fail
  go_cut [3] (fun t3 wx => ∃ g A5 c5 B5 d5, t3 = .pointer (some ⟨g, 0, none⟩) ∧ TrI ok w #[.int .i64 n.kind, .string ⟨n.text.toArray⟩, .int .i64 n.val.kind, .int .i64 n.val.num, .string ⟨n.val.str.toArray⟩, .slice A n.val.parts.length c, .slice B n.val.keys.length d, .bool n.flag, .slice K n.kids.length e, .int .i64 n.spot] n g A5 c5 B5 d5 0 (.slice none 0 0) wx)
  case first =>
    have HS0 := Lib.hid (ten_cells (HB.out.arg.below (drew_b _)))
    have HS1 := Lib.hid (ten_cells ((HB.out.arg.below (one_al _ (.cells zNode 28))).below (drew_b _)))
    go_region_held3 (fun W => W.cell? ⟨w.heap.size, 0, none⟩ = some (.int .i64 n.kind) ∧ W.cell? ⟨w.heap.size, 1, none⟩ = some (.string ⟨n.text.toArray⟩) ∧ W.cell? ⟨w.heap.size, 2, none⟩ = some (.int .i64 n.val.kind) ∧ W.cell? ⟨w.heap.size, 3, none⟩ = some (.int .i64 n.val.num) ∧ W.cell? ⟨w.heap.size, 4, none⟩ = some (.string ⟨n.val.str.toArray⟩) ∧ W.cell? ⟨w.heap.size, 5, none⟩ = some (.slice A n.val.parts.length c) ∧ W.cell? ⟨w.heap.size, 6, none⟩ = some (.slice B n.val.keys.length d) ∧ W.cell? ⟨w.heap.size, 7, none⟩ = some (.bool n.flag) ∧ W.cell? ⟨w.heap.size, 8, none⟩ = some (.slice K n.kids.length e) ∧ W.cell? ⟨w.heap.size, 9, none⟩ = some (.int .i64 n.spot))
      ((first | with_reducible exact HS0.out | with_reducible exact HS1.out | with_reducible exact HS3.out | with_reducible exact HS4.out _ | with_reducible exact HS5.out _ _ _ _ _ _ _ _ _ _))
      (first
        | (go_at_call 18; with_reducible refine (law_copied n.val (valV n.val A c B d) (fun b => ok b ∧ b < w.heap.size) _ ((HV.out.lt.below HB.out.bel).below (drew_b _))).mono ?_; rintro e1 w3 ⟨v', rfl, hv', hb⟩; obtain ⟨A5, c5, B5, d5, rfl, _⟩ := hv'.form; have HV5 := Lib.hid (hv'.imp (ok' := fun b => (ok b ∧ b < w.heap.size) ∨ w.heap.size + 2 ≤ b) fun b hb => hb.imp id fun h => by simp at h; omega); have HB3 := Lib.hid ((HB.out.below (drew_b _)).below hb); have HS3 := Lib.hid (ten_cells HB3.out.arg); have HS4 := Lib.hid (fun x => ten_cells (HB3.out.arg.below (one_al w3 x))); clear hv' hb)
        | (go_at_call 18; with_reducible refine (law_copied n.val (valV n.val A c B d) (fun b => ok b ∧ b < w.heap.size) _ (((HV.out.lt.below HB.out.bel).below (one_al _ _)).below (drew_b _))).mono ?_; rintro e1 w3 ⟨v', rfl, hv', hb⟩; obtain ⟨A5, c5, B5, d5, rfl, _⟩ := hv'.form; have HV5 := Lib.hid (hv'.imp (ok' := fun b => (ok b ∧ b < w.heap.size) ∨ w.heap.size + 3 ≤ b) fun b hb => hb.imp id fun h => by simp at h; omega); have HB3 := Lib.hid (((HB.out.below (one_al _ _)).below (drew_b _)).below hb); have HG3 := Lib.hid ((HG.out.below (drew_b _)).below hb); have HS3 := Lib.hid (ten_cells HB3.out.arg); have HS5 := Lib.hid (fun a0 a1 a2 a3 a4 a5 a6 a7 a8 a9 => ten_cells (HB3.out.arg.fr (ten_res (w.heap.size + 2) a0 a1 a2 a3 a4 a5 a6 a7 a8 a9 w3) (fun h => by omega))); obtain ⟨q0, q1, q2, q3, q4, q5, q6, q7, q8, q9⟩ := ten_cells HG3.out; obtain ⟨m0, m1, m2, m3, m4, m5, m6, m7, m8, m9⟩ := ten_melt HG3.out; clear hv' hb))
    all_goals go_wp2_with fail
    all_goals go_meet
    all_goals first | exact ⟨_, A5, c5, B5, d5, rfl, TrI.start0 HB3.out HV5.out⟩ | exact ⟨_, A5, c5, B5, d5, rfl, TrI.start1 HB3.out HV5.out HG3.out⟩
  case rest =>
    obtain ⟨g, A5, c5, B5, d5, rfl, hI⟩ := hcut
    have HI := Lib.hid hI
    have e3 := hI.st.arg.cell 8 rfl
    have q3 := fun x => (hI.own.below (one_al _ x)).cell 8 rfl
    have f3 := fun x => (hI.own.below (one_al _ x)).melt 8
    clear hI
    go_upto_if 20 with fail
    go_cut [4] (fun t4 wx => ∃ lv, TrI ok w #[.int .i64 n.kind, .string ⟨n.text.toArray⟩, .int .i64 n.val.kind, .int .i64 n.val.num, .string ⟨n.val.str.toArray⟩, .slice A n.val.parts.length c, .slice B n.val.keys.length d, .bool n.flag, .slice K n.kids.length e, .int .i64 n.spot] n g A5 c5 B5 d5 0 lv wx)
    case first =>
      by_cases hkn : 0 < n.kids.length
      · have hkA : (0 : Int) < (n.kids.length : Int) := by omega
        have mk1 := mk_node n.kids.length hlen
        go_wp2_with fail
        go_meet
        exact ⟨_, HI.out.room hlen⟩
      · have hkA : ¬ (0 : Int) < (n.kids.length : Int) := by omega
        go_wp2_with fail
        go_meet
        exact ⟨_, HI.out⟩
    case rest =>
      obtain ⟨lv0, hI0⟩ := hcut
      have HI0 := Lib.hid hI0
      clear hI0 e3 q3 f3
      go_wp2_with fail
      go_loopw [4] (fun i wr => ∃ k : Nat, k ≤ n.kids.length ∧ i = .int .i64 (k : Int) ∧ ∃ lv, TrI ok w #[.int .i64 n.kind, .string ⟨n.text.toArray⟩, .int .i64 n.val.kind, .int .i64 n.val.num, .string ⟨n.val.str.toArray⟩, .slice A n.val.parts.length c, .slice B n.val.keys.length d, .bool n.flag, .slice K n.kids.length e, .int .i64 n.spot] n g A5 c5 B5 d5 k lv wr) (fun i _ => n.kids.length - (intOf i).toNat)
      case atStart => exact ⟨0, Nat.zero_le _, rfl, _, HI0.out⟩
      case round =>
        obtain ⟨k, hk, rfl, lv, hI⟩ := hrel
        have HI := Lib.hid hI
        have a3 := hI.st.arg.cell 8 rfl
        clear hI
        by_cases hlt : k < n.kids.length
        · have hlA : (k : Int) < (n.kids.length : Int) := by omega
          have h00 : (0 : Int) ≤ (k : Int) := by omega
          have hsz := N.sz_kid hlt
          obtain ⟨g0, off, A', c', B', d', K', e', rfl, hog, hrd, x0, x1, x2, x3, x4, x5, x6, x7, x8, x9⟩ := ((show RdNs (fun b => ok b ∧ b < w.heap.size) w (.slice K n.kids.length e) 0 n.kids from HL.out.lt).below HI.out.st.bel).elem k hlt
          have HY := Lib.hid (fun (W : World) (hv : RdN (fun b => ok b ∧ b < w.heap.size) W (valN n.kids[k] A' c' B' d' K' e') n.kids[k]) => Hih.out (SizeOf.sizeOf n.kids[k]) (Nat.lt_of_lt_of_le hsz Hm.out) n.kids[k] (valN n.kids[k] A' c' B' d' K' e') _ W hv (Nat.le_refl _))
          have HRd := Lib.hid hrd.rd
          have HStep := Lib.hid (fun (w0 w3 w4 : World) (h : TrI ok w #[.int .i64 n.kind, .string ⟨n.text.toArray⟩, .int .i64 n.val.kind, .int .i64 n.val.num, .string ⟨n.val.str.toArray⟩, .slice A n.val.parts.length c, .slice B n.val.keys.length d, .bool n.flag, .slice (some ⟨g0, off, none⟩) n.kids.length e, .int .i64 n.spot] n g A5 c5 B5 d5 k lv w0) => @TrI.step _ _ _ _ _ _ _ _ _ _ _ w0 w3 w4 h hlt)
          have Hlt := Lib.hid hlt
          have o3 := HI.out.own.cell 8 rfl
          obtain ⟨news, hrow, hel⟩ := HI.out.row
          obtain ⟨A2, c2, rfl, hc2⟩ := hrow.slice
          have HRow := Lib.hid hrow
          have HEl := Lib.hid hel
          generalize n.kids[k] = Y at *
          clear hrd hog hsz hrow hel hlt
          go_upto_region 7 with fail
          go_region_law (first
            | (refine step_append_gen rfl _ _ 26 rfl infoNode Tryd.underlying26 rfl (by decide) (by decide) rfl ((HR3.out.selfP w3.heap.size).alloc _) (some ⟨w3.heap.size, 0, none⟩) 1 1 [.int .i64 Y.kind, .string ⟨Y.text.toArray⟩, .int .i64 Y.val.kind, .int .i64 Y.val.num, .string ⟨Y.val.str.toArray⟩, .slice A7 Y.val.parts.length c7, .slice B7 Y.val.keys.length d7, .bool Y.flag, .slice K7 Y.kids.length e7, .int .i64 Y.spot] rfl rfl (fun _ => ⟨_, _, rfl, fun j u hj => by rw [Nat.zero_add]; exact (Box.new w3 #[.int .i64 Y.kind, .string ⟨Y.text.toArray⟩, .int .i64 Y.val.kind, .int .i64 Y.val.num, .string ⟨Y.val.str.toArray⟩, .slice A7 Y.val.parts.length c7, .slice B7 Y.val.keys.length d7, .bool Y.flag, .slice K7 Y.kids.length e7, .int .i64 Y.spot] 28).cell j (by simpa using hj)⟩) HV7.out.ones (by have := Hlt.out; omega) (fun k hk => Or.inr (by simp at hk; omega)) ?_; intro v4 w4 g3 g4; obtain ⟨A6, c6, rfl, _⟩ := g3.slice; have G3 := Lib.hid g3; have G4 := Lib.hid ((World.grownBy_alloc w3 _ _).trans g4); have HB4 := Lib.hid (HI3.out.own.of (G4.out.block g HI3.out.own.lt (fun he => (HRow.out.blk g he.symm).2 rfl))); have s1 := HB4.out.cell 8 rfl; have s2 := HB4.out.melt 8; clear g3 g4)
            | (go_simp; go_at_call 9; refine (HY.out _ (HRd.out.below (drew_b _))).mono ?_; rintro e w3 ⟨v', rfl, hv', hb⟩; obtain ⟨A7, c7, B7, d7, K7, e7, rfl, _⟩ := hv'.form; have HV7 := Lib.hid hv'; have HB3 := Lib.hid (bthen (drew_b wr) hb); have HI3 := Lib.hid (HI.out.below HB3.out); have HR3 := Lib.hid (HRow.out.below HB3.out); have p3 := HI3.out.own.cell 8 rfl; have p4 := fun x => (HI3.out.own.below (one_al _ x)).cell 8 rfl; clear hv' hb))
          all_goals go_wp2_with fail
          all_goals exact ⟨⟨k + 1, Hlt.out, by go_num, _, HStep.out wr w3 w4 HI.out HB3.out rfl HV7.out HEl.out (fun b hb => HRow.out.lt b hb) G3.out G4.out (fun b hb => HRow.out.blk b hb)⟩, by have := Hlt.out; simp [intOf]; omega⟩
        · have hlA : ¬ (k : Int) < (n.kids.length : Int) := by omega
          have hke : k = n.kids.length := by omega
          subst hke
          obtain ⟨A2, c2', rfl, _⟩ : ∃ A2 c2, lv = .slice A2 n.kids.length c2 ∧ True := by
            obtain ⟨news, hrow, _⟩ := HI.out.row
            obtain ⟨A2, c2, h, _⟩ := hrow.slice
            exact ⟨A2, c2, h, trivial⟩
          obtain ⟨r0, r1, r2, r3, r4, r5, r6, r7, r8, r9⟩ := ten_cells HI.out.own
          obtain ⟨z0, z1, z2, z3, z4, z5, z6, z7, z8, z9⟩ := ten_cells HI.out.st.res
          obtain ⟨m0, m1, m2, m3, m4, m5, m6, m7, m8, m9⟩ := ten_melt HI.out.st.res
          clear hk hlt
          go_wp2_with fail
          refine bodyPost_ret (v := valN n A5 c5 B5 d5 A2 c2') (by simp [results, Tryd.results9, go_sem, r0, r1, r2, r3, r4, r5, r6, r7, r8, r9, z0, z1, z2, z3, z4, z5, z6, z7, z8, z9, valN]) rfl ⟨_, rfl, ((HI.out.rd HO.out.1 HO.out.2.1 HO.out.2.2 hlen).fr (ten_res (w.heap.size + 1) _ _ _ _ _ _ _ _ _ _ wr) (fun b _ h1 h2 => h1.elim (fun h => by have := h.2; omega) (fun h => by omega))).imp (fun b hb => hb.imp (fun h => h.1) (fun h => by omega)), ?_⟩
          exact (ten_res (w.heap.size + 1) _ _ _ _ _ _ _ _ _ _ wr).behind HI.out.st.bel (fun b hb => by omega)
set_option maxRecDepth 20000 in
set_option maxHeartbeats 2000000 in
theorem law_treeOf (n : N) (v : Value) (ok : Nat → Prop) (w : World) (hv : RdN ok w v n) :
    Calls Tryd.prog 4 #[v] w fun e w' => ∃ v', e = .returned v' ∧ RdN (fun b => ok b ∨ w.heap.size ≤ b) w' v' n ∧ Below w.heap.size w w' := by
  obtain ⟨A, c, B, d, K, e, rfl, _⟩ := hv.form
  have HV := Lib.hid hv
  have HB := Lib.hid (TwoB.new w #[.int .i64 n.kind, .string ⟨n.text.toArray⟩, .int .i64 n.val.kind, .int .i64 n.val.num, .string ⟨n.val.str.toArray⟩, .slice A n.val.parts.length c, .slice B n.val.keys.length d, .bool n.flag, .slice K n.kids.length e, .int .i64 n.spot] zNode 28)
  clear hv
  go_enter Tryd.func4, Tryd.ntmps4
  go_wp2_with fail
  refine (law_slim n (valN n A c B d K e) ok _ (HV.out.below HB.out.bel)).mono ?_
  rintro e1 w1 ⟨rfl, hb⟩
  have HB1 := Lib.hid (HB.out.below hb)
  obtain ⟨r0, r1, r2, r3, r4, r5, r6, r7, r8, r9⟩ := ten_cells HB1.out.arg
  clear hb
  generalize decide (nsize n ≤ 40000) = q
  cases q with
  | false =>
    obtain ⟨z0, z1, z2, z3, z4, z5, z6, z7, z8, z9⟩ := ten_cells HB1.out.res
    obtain ⟨m0, m1, m2, m3, m4, m5, m6, m7, m8, m9⟩ := ten_melt HB1.out.res
    go_wp2_with fail
    refine bodyPost_ret (v := valN n A c B d K e) (by simp [results, Tryd.results4, go_sem, r0, r1, r2, r3, r4, r5, r6, r7, r8, r9, z0, z1, z2, z3, z4, z5, z6, z7, z8, z9, valN]) rfl ⟨_, rfl, ((HV.out.lt.below HB1.out.bel).fr (ten_res (w.heap.size + 1) _ _ _ _ _ _ _ _ _ _ w1) (fun b _ h1 h2 => by have := h1.2; omega)).imp (fun b hb => Or.inl hb.1), (ten_res (w.heap.size + 1) _ _ _ _ _ _ _ _ _ _ w1).behind HB1.out.bel (fun b hb => by omega)⟩
  | true =>
    go_wp2_with fail
    refine (law_tree _ n (valN n A c B d K e) (fun b => ok b ∧ b < w.heap.size) _ (HV.out.lt.below HB1.out.bel) (Nat.le_refl _)).mono ?_
    rintro e1 w2 ⟨v', rfl, hv', hb2⟩
    have HB2 := Lib.hid (HB1.out.below hb2)
    have HV2 := Lib.hid hv'
    obtain ⟨A7, c7, B7, d7, K7, e7, rfl, _⟩ := hv'.form
    have hsz := HB1.out.res.lt
    clear r0 r1 r2 r3 r4 r5 r6 r7 r8 r9 hv' hb2
    obtain ⟨z0, z1, z2, z3, z4, z5, z6, z7, z8, z9⟩ := ten_cells HB2.out.res
    obtain ⟨m0, m1, m2, m3, m4, m5, m6, m7, m8, m9⟩ := ten_melt HB2.out.res
    go_wp2_with fail
    refine bodyPost_ret (v := valN n A7 c7 B7 d7 K7 e7) (by simp [results, Tryd.results4, go_sem, z0, z1, z2, z3, z4, z5, z6, z7, z8, z9, valN]) rfl ⟨_, rfl, (HV2.out.fr (ten_res (w.heap.size + 1) _ _ _ _ _ _ _ _ _ _ w2) (fun b _ h1 h2 => h1.elim (fun h => by have := h.2; omega) (fun h => by omega))).imp (fun b hb => hb.imp (fun h => h.1) (fun h => by omega)), (ten_res (w.heap.size + 1) _ _ _ _ _ _ _ _ _ _ w2).behind HB2.out.bel (fun b hb => by omega)⟩
end Go.Proofs.YthlfeiiolafonaaDoor
