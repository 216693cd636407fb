/- The parser's walks: name, binds, within. The parser's walks: the knot of expressions, unary. The parser's walks: unary, of a sign. The parser's walks: unary at a sign. -/
import Derived.Test.YtlnhhffhmeekoaaGreatDoorGParA
import Derived.Test.YtlnhhffhmeekoaaGreatDoorGNode
import Derived.Laws.Entries
import Derived.RegionTactic
import Derived.ChangeAlike
set_option linter.unusedVariables false
set_option linter.unusedSimpArgs false
namespace Go.Proofs.YtlnhhffhmeekoaaGreatDoor
open Go.RowKit Go.IntWalk

section
variable {T : List Tok} {gt cap g k o : Nat} {w : World}
/-- the block of the tokens is there -/
theorem PSt.ltt (h : PSt T gt cap g k o w) : gt < w.heap.size := World.block_lt_of_cell? w _ (h.cell 0 (by have := h.lt; omega)).1
set_option maxRecDepth 20000 in
set_option maxHeartbeats 400000 in
theorem p_name_no (h : PSt T gt cap g k o w) (hs : (((tkAt T k).kind : Int) != 1) = true) :
    Calls Tryz.prog 126 #[.pointer (some ⟨g, 0, none⟩)] w fun e w' => e = stopV 170 (tkAt T k).pos ∧ Below w.heap.size w w' := by
  have H := Lib.hid h
  clear h
  have hf := tok_f0 (tkAt T k)
  go_enter Tryz.func126, Tryz.ntmps126
  go_wp2_with fail
  refine (p_peek (H.out.below (p_al _ _))).mono ?_
  rintro e w1 ⟨rfl, hb⟩
  have HB := Lib.hid (bthen (p_al w (.cells zTok 41)) hb)
  clear hb
  go_wp2_with fail
  refine (p_fail (H.out.below HB.out) 170 170 rfl).mono ?_
  rintro e w2 ⟨rfl, hb⟩
  go_wp2_with fail
  exact ⟨rfl, rfl, bthen HB.out hb⟩
set_option maxRecDepth 20000 in
set_option maxHeartbeats 400000 in
theorem p_name_yes (hT : TkOk T) (h : PSt T gt cap g k o w) (hs : (((tkAt T k).kind : Int) != 1) = false) :
    Calls Tryz.prog 126 #[.pointer (some ⟨g, 0, none⟩)] w fun e w' => e = .returned (tokP (tkAt T k)) ∧ PSt T gt cap g (k + 1) o w' ∧ Fr (fun b => g = b) w w' := by
  have H1 := Lib.hid (hT.next h.lt (by simp at hs; omega))
  have H := Lib.hid h
  have HX := Lib.hid (Box.new w zTok 41)
  have hlg := h.box.lt
  have hlt0 := h.ltt
  clear h
  have hf := tok_f0 (tkAt T k)
  go_enter Tryz.func126, Tryz.ntmps126
  go_wp2_with fail
  refine (p_peek (H.out.below (p_al _ _))).mono ?_
  rintro e w1 ⟨rfl, hb⟩
  have HB := Lib.hid (bthen (p_al w (.cells zTok 41)) hb)
  have HX1 := Lib.hid (HX.out.below hb)
  clear hb
  go_wp2_with fail
  refine (p_next (H.out.below HB.out) H1.out).mono ?_
  rintro e w2 ⟨rfl, hP, hF⟩
  have HP := Lib.hid hP
  have HF := Lib.hid hF
  have HX2 := Lib.hid (HX1.out.fr hF (by omega))
  clear hP hF
  obtain ⟨c0, c1, c2, c3, m0, m1, m2, m3⟩ := four_facts HX2.out
  clear hf
  go_wp2_with fail
  refine bodyPost_ret (v := tokP (tkAt T k)) (by simp [results, Tryz.results126, go_sem, c0, c1, c2, c3]) rfl ⟨rfl, ?_, ?_⟩
  · exact HP.out.fr (four_res w.heap.size _ _ _ _ w2) (by omega) (by omega)
  · exact ((Fr.of_below HB.out).trans HF.out).past (four_res w.heap.size _ _ _ _ w2) (fun b _ h => by omega)
end
set_option maxRecDepth 20000 in
set_option maxHeartbeats 400000 in
theorem p_binds (X : Tok) (w : World) : Calls Tryz.prog 112 #[tokP X] w fun e w' => e = .returned (.int .i64 (bindT X : Int)) ∧ Below w.heap.size w w' := by
  cases h5 : ((X.kind : Int) != 5) with
  | true =>
    have hb : bindT X = 0 := by unfold bindT; rw [if_neg (by simp at h5; omega)]
    rw [hb]
    go_enter Tryz.func112, Tryz.ntmps112
    go_wp2_with fail
    go_ret
    exact ⟨rfl, p_al _ _⟩
  | false =>
    have h5' := Lib.hid (show X.kind = 5 by simp at h5; omega)
    go_enter Tryz.func112, Tryz.ntmps112
    go_wp2_with fail
    all_goals go_ret
    all_goals (refine ⟨p_ri ?_, p_al _ _⟩; have h6 := h5'.out; unfold bindT; simp_all)
section
variable {T : List Tok} {gt cap g k o : Nat} {w : World}
set_option maxRecDepth 20000 in
set_option maxHeartbeats 400000 in
theorem p_within_no (h : PSt T gt cap g k 24 w) (c : Value) :
    Calls Tryz.prog 169 #[.pointer (some ⟨g, 0, none⟩), c] w fun e w' => e = stopV 171 (tkAt T k).pos ∧ Fr (fun b => g = b) w w' := by
  have H := Lib.hid h
  obtain ⟨p0, p1, z0, z1⟩ := (h.below (p_al w (.cells zTok 41))).facts
  clear h
  go_enter Tryz.func169, Tryz.ntmps169
  go_wp2_with fail
  refine (p_fail (H.out.below (p_al _ _)) 171 171 rfl).mono ?_
  rintro e w1 ⟨rfl, hb⟩
  go_wp2_with fail
  exact ⟨rfl, rfl, Fr.of_below (bthen (p_al _ _) hb)⟩
set_option maxRecDepth 20000 in
set_option maxHeartbeats 1000000 in
/-- within, of a closure: B says where it may leave off, R what it leaves (the tokens behind it, the worlds ahead of it and behind) -/
theorem p_within (hT : TkOk T) (h : PSt T gt cap g k o w) (h1 : k + 1 < T.length) (ho : o < 24) (F : FuncId) (caps : Array Value) (hent : ∀ w, (callFunc F caps).run Tryz.prog w = .ok (.enter F caps) w) (okc : Nat → Prop) (hok : ∀ b, okc b → b < w.heap.size ∧ b ≠ gt) (B : Nat → Nat → Prop) (R : Nat → World → World → Prop)
    (hC : ∀ W1, PSt T gt cap g (k + 1) (o + 1) W1 → Fr (fun b => g = b) w W1 → w.heap.size + 2 ≤ W1.heap.size → Calls Tryz.prog F caps W1 fun e W2 => (∃ c p, e = stopV c p ∧ B c p ∧ Fr (fun b => g = b ∨ okc b) W1 W2) ∨ (e = .returned (.tuple #[]) ∧ ∃ k', PSt T gt cap g k' (o + 1) W2 ∧ Fr (fun b => g = b ∨ okc b) W1 W2 ∧ R k' W1 W2)) :
    Calls Tryz.prog 169 #[.pointer (some ⟨g, 0, none⟩), .func (.func F) #[] caps] w fun e w' =>
      (∃ c p, e = stopV c p ∧ B c p ∧ Fr (fun b => g = b ∨ okc b) w w') ∨ (e = .returned (tokP (tkAt T k)) ∧ ∃ k' W1 W2, PSt T gt cap g k' o w' ∧ R k' W1 W2 ∧ Fr (fun b => g = b) w W1 ∧ w.heap.size + 2 ≤ W1.heap.size ∧ Fr (fun b => g = b ∨ okc b) W1 W2 ∧ Fr (fun b => g = b ∨ w.heap.size = b) W2 w') := by
  have H := Lib.hid h
  have HC := Lib.hid hC
  obtain ⟨p0, p1, z0, z1⟩ := (h.below (p_al w (.cells zTok 41))).facts
  have hlg := h.box.lt
  have hlt := h.ltt
  have h24 : ((o : Int) == 24) = false := by simp; omega
  have HX := Lib.hid (Box.new w zTok 41)
  clear h hC
  go_enter Tryz.func169, Tryz.ntmps169
  go_wp2_with fail
  refine (p_next (H.out.below (p_al _ _)) h1).mono ?_
  rintro e w1 ⟨rfl, hP, hF⟩
  have HP := Lib.hid hP
  have HF := Lib.hid ((Fr.of_below (p_al w (.cells zTok 41))).trans hF)
  have HX1 := Lib.hid (HX.out.fr hF (by omega))
  have hsz : w.heap.size + 1 ≤ w1.heap.size := by have := hF.size; simp at this; omega
  have HT := Lib.hid (Box.new w1 #[.int .i64 ((tkAt T k).kind : Int), .string ⟨(tkAt T k).text.toArray⟩, .int .i64 ((tkAt T k).n : Int), .int .i64 ((tkAt T k).pos : Int)] 41)
  obtain ⟨q0, q1, y0, y1⟩ := (hP.below (p_al w1 (.cells #[.int .i64 ((tkAt T k).kind : Int), .string ⟨(tkAt T k).text.toArray⟩, .int .i64 ((tkAt T k).n : Int), .int .i64 ((tkAt T k).pos : Int)] 41))).facts
  clear hP hF p0 p1 z0 z1
  go_wp2_with fail
  have HT2 := Lib.hid (HT.out.off (show w1.heap.size ≠ g by omega) 1 (.int .i64 ((o : Int) + 1)))
  have HP2 := Lib.hid (show PSt T gt cap g (k + 1) (o + 1) _ from (HP.out.below (p_al w1 (.cells #[.int .i64 ((tkAt T k).kind : Int), .string ⟨(tkAt T k).text.toArray⟩, .int .i64 ((tkAt T k).n : Int), .int .i64 ((tkAt T k).pos : Int)] 41))).opn (o + 1) ((o : Int) + 1) (by omega) (by omega))
  have HF2 := Lib.hid ((HF.out.alloc (.cells #[.int .i64 ((tkAt T k).kind : Int), .string ⟨(tkAt T k).text.toArray⟩, .int .i64 ((tkAt T k).n : Int), .int .i64 ((tkAt T k).pos : Int)] 41)).set1 g 1 rfl (.int .i64 ((o : Int) + 1)))
  have HX2 := Lib.hid ((HX1.out.below (p_al w1 (.cells #[.int .i64 ((tkAt T k).kind : Int), .string ⟨(tkAt T k).text.toArray⟩, .int .i64 ((tkAt T k).n : Int), .int .i64 ((tkAt T k).pos : Int)] 41))).off (show w.heap.size ≠ g by omega) 1 (.int .i64 ((o : Int) + 1)))
  clear HP HF HX1 HT q0 q1 y0 y1
  refine (HC.out _ HP2.out HF2.out (by simp; omega)).mono ?_
  generalize hW1 : ((w1.alloc (.cells #[.int .i64 ((tkAt T k).kind : Int), .string ⟨(tkAt T k).text.toArray⟩, .int .i64 ((tkAt T k).n : Int), .int .i64 ((tkAt T k).pos : Int)] 41)).setCell ⟨g, 1, none⟩ (.int .i64 ((o : Int) + 1))) = W1 at *
  have hz1 : w1.heap.size + 1 = W1.heap.size := by rw [← hW1]; simp
  clear hW1
  rintro e w2 (⟨c, p, rfl, hB, hF⟩ | ⟨rfl, k', hP, hF, hR⟩)
  · have HB := Lib.hid hB
    have HF3 := Lib.hid hF
    clear hB hF
    go_wp2_with fail
    exact ⟨rfl, .inl ⟨c, p, rfl, HB.out, (HF2.out.mono (fun b _ h => .inl h)).trans HF3.out⟩⟩
  · have HF3 := Lib.hid hF
    have HR := Lib.hid hR
    have HX3 := Lib.hid (HX2.out.fr hF (fun h => h.elim (fun h => by omega) (fun h => by have := (hok _ h).1; omega)))
    have HT3 := Lib.hid (HT2.out.fr hF (fun h => h.elim (fun h => by omega) (fun h => by have := (hok _ h).1; omega)))
    have HP3 := Lib.hid hP
    have hz2 := hF.size
    obtain ⟨q0, q1, y0, y1⟩ := hP.facts
    obtain ⟨c0, c1, c2, c3, m0, m1, m2, m3⟩ := four_facts HX3.out
    obtain ⟨d0, d1, d2, d3, n0, n1, n2, n3⟩ := four_facts HT3.out
    clear hP hF hR
    have hgx : ¬ g = w.heap.size := by omega
    have hgt : ¬ g = w1.heap.size := by omega
    go_wp2_with fail
    have hfr : Fr (fun b => g = b ∨ w.heap.size = b) w2 (((((w2.setCell ⟨g, 1, none⟩ (.int .i64 (o : Int))).setCell ⟨w.heap.size, 0, none⟩ (.int .i64 ((tkAt T k).kind : Int))).setCell ⟨w.heap.size, 1, none⟩ (.string ⟨(tkAt T k).text.toArray⟩)).setCell ⟨w.heap.size, 2, none⟩ (.int .i64 ((tkAt T k).n : Int))).setCell ⟨w.heap.size, 3, none⟩ (.int .i64 ((tkAt T k).pos : Int))) :=
      (((Fr.refl _ w2).set1 g 1 (.inl rfl) _).past (four_res w.heap.size _ _ _ _ _) (fun b _ h => .inr h))
    refine bodyPost_ret (v := tokP (tkAt T k)) (by simp [results, Tryz.results169, go_sem, c0, c1, c2, c3, hgx]) rfl (.inr ⟨rfl, k', W1, w2, ?_, HR.out, HF2.out, by omega, HF3.out, hfr⟩)
    exact (HP3.out.opn o (o : Int) rfl (by omega)).fr (four_res w.heap.size _ _ _ _ _) (by omega) (by omega)
end
end Go.Proofs.YtlnhhffhmeekoaaGreatDoor
namespace Go.Proofs.YtlnhhffhmeekoaaGreatDoor
open Go.RowKit Go.IntWalk

abbrev valO (n : N) (lv : Value) : Value := .agg #[.int .i64 n.kind, .string ⟨n.text.toArray⟩, .int .i64 n.val.kind, .int .i64 n.val.num, .string ⟨n.val.str.toArray⟩, .slice none 0 0, .slice none 0 0, .bool n.flag, lv, .int .i64 n.spot]
theorem OwN.lvs {ok : Nat → Prop} {w : World} {n : N} {lv : Value} (h : OwN ok w (cellsN n lv) n) : ∃ A c, lv = .slice A n.kids.length c := by
  obtain ⟨_, _, _, _, _, lv', news, he, hr, _⟩ := h.open
  obtain ⟨A, c, hv, _⟩ := hr.slice
  simp only [cellsN, List.cons.injEq, and_true, true_and] at he
  exact ⟨A, c, he.trans hv⟩
/-- what a reader of nodes comes to -/
def EndN (T : List Tok) (gt cap g o : Nat) (w : World) (r : PR N) (e : Ending) (W' : World) : Prop :=
  (∃ c p, r = .bad c p ∧ e = stopV c p ∧ Fr (fun b => g = b) w W') ∨ (∃ n lv k', r = .ok n (T.drop k') ∧ e = .returned (valO n lv) ∧ PSt T gt cap g k' o W' ∧ Fr (fun b => g = b) w W' ∧ OwN (fun b => w.heap.size ≤ b) W' (cellsN n lv) n)
/-- the contracts of the readers of expressions, at some fuel -/
structure KnotE (T : List Tok) (gt cap g f : Nat) : Prop where
  bin : ∀ (m o k : Nat) (M : Int) (w : World), M = (m : Int) → 1 ≤ m → m ≤ 6 → PSt T gt cap g k o w → pBin f m o (T.drop k) ≠ .out → Calls Tryz.prog 63 #[.pointer (some ⟨g, 0, none⟩), .int .i64 M] w (EndN T gt cap g o w (pBin f m o (T.drop k)))
  un : ∀ (o k : Nat) (w : World), PSt T gt cap g k o w → pUn f o (T.drop k) ≠ .out → Calls Tryz.prog 111 #[.pointer (some ⟨g, 0, none⟩)] w (EndN T gt cap g o w (pUn f o (T.drop k)))
  post : ∀ (o k : Nat) (w : World), PSt T gt cap g k o w → pPost f o (T.drop k) ≠ .out → Calls Tryz.prog 168 #[.pointer (some ⟨g, 0, none⟩)] w (EndN T gt cap g o w (pPost f o (T.drop k)))
  prim : ∀ (o k : Nat) (w : World), PSt T gt cap g k o w → pPrim f o (T.drop k) ≠ .out → Calls Tryz.prog 206 #[.pointer (some ⟨g, 0, none⟩)] w (EndN T gt cap g o w (pPrim f o (T.drop k)))
abbrev pPtr (g : Nat) : Value := .pointer (some ⟨g, 0, none⟩)
section
variable {T : List Tok} {gt cap g k o f : Nat} {w : World}
theorem two_new (w : World) (a b : Array Value) (s t : TypeId) : Box w.heap.size a s ((w.alloc (.cells a s)).alloc (.cells b t)) ∧ Box (w.heap.size + 1) b t ((w.alloc (.cells a s)).alloc (.cells b t)) ∧ Below w.heap.size w ((w.alloc (.cells a s)).alloc (.cells b t)) := by
  refine ⟨(Box.new w a s).below (p_al _ _), ?_, bthen (p_al _ _) (p_al _ _)⟩
  have := Box.new (w.alloc (.cells a s)) b t
  simpa using this
/-- a node handed on through the result's box -/
theorem EndN.ret {r : PR N} {n : N} {lv : Value} {k' b0 B : Nat} {W' : World} (hg : g < w.heap.size) (ht : gt < w.heap.size) (hr : r = .ok n (T.drop k')) (hP : PSt T gt cap g k' o W') (hF : Fr (fun b => g = b) w W') (hO : OwN (fun b => B ≤ b) W' (cellsN n lv) n) (hb : w.heap.size ≤ b0) (hB : b0 < B) :
    EndN T gt cap g o w r (.returned (valO n lv)) ((((((((((W'.setCell ⟨b0, 0, none⟩ (.int .i64 n.kind)).setCell ⟨b0, 1, none⟩ (.string ⟨n.text.toArray⟩)).setCell ⟨b0, 2, none⟩ (.int .i64 n.val.kind)).setCell ⟨b0, 3, none⟩ (.int .i64 n.val.num)).setCell ⟨b0, 4, none⟩ (.string ⟨n.val.str.toArray⟩)).setCell ⟨b0, 5, none⟩ (.slice none 0 0)).setCell ⟨b0, 6, none⟩ (.slice none 0 0)).setCell ⟨b0, 7, none⟩ (.bool n.flag)).setCell ⟨b0, 8, none⟩ lv).setCell ⟨b0, 9, none⟩ (.int .i64 n.spot)) := by
  have hf := ten_res b0 (.int .i64 n.kind) (.string ⟨n.text.toArray⟩) (.int .i64 n.val.kind) (.int .i64 n.val.num) (.string ⟨n.val.str.toArray⟩) (.slice none 0 0) (.slice none 0 0) (.bool n.flag) lv (.int .i64 n.spot) W'
  refine .inr ⟨n, lv, k', hr, rfl, hP.fr hf (by omega) (by omega), hF.past hf (fun b h1 h2 => by omega), (hO.fr hf (fun b _ h1 h2 => by omega)).imp (fun b _ h => by omega)⟩
set_option maxRecDepth 20000 in
set_option maxHeartbeats 1000000 in
theorem k_un_plain (ih : KnotE T gt cap g f) (h : PSt T gt cap g k o w) (h1 : isT [45] (T.drop k) = false) (h2 : isT [33] (T.drop k) = false) (hne : pUn (f + 1) o (T.drop k) ≠ .out) :
    Calls Tryz.prog 111 #[pPtr g] w (EndN T gt cap g o w (pUn (f + 1) o (T.drop k))) := by
  have hs : pUn (f + 1) o (T.drop k) = pPost f o (T.drop k) := by rw [pUn, h1, h2]; simp
  rw [hs] at hne ⊢
  clear hs
  obtain ⟨b1, b2, b3⟩ := two_new w #[pPtr g] zNode 52 29
  have HB1 := Lib.hid b1
  have HB2 := Lib.hid b2
  have HB3 := Lib.hid b3
  have HI := Lib.hid (fun W hW => ih.post o k W hW hne)
  have hlg := h.box.lt
  have hlt := h.ltt
  have H := Lib.hid h
  have H1 := Lib.hid h1
  have H2 := Lib.hid h2
  clear h b1 b2 b3 h1 h2 hne ih
  go_enter Tryz.func111, Tryz.ntmps111
  go_wp2_with fail
  refine (p_is_at (H.out.below HB3.out) [45] false H1.out).mono ?_
  rintro e w1 ⟨rfl, hb⟩
  have HC1 := Lib.hid (HB1.out.below hb)
  have HC2 := Lib.hid (HB2.out.below hb)
  have HC3 := Lib.hid (bthen HB3.out hb)
  have c0 := HC1.out.cell 0 rfl
  clear hb HB1 HB2 HB3
  go_wp2_with fail
  refine (p_is_at (H.out.below HC3.out) [33] false H2.out).mono ?_
  rintro e w2 ⟨rfl, hb⟩
  have HD1 := Lib.hid (HC1.out.below hb)
  have HD2 := Lib.hid (HC2.out.below hb)
  have HD3 := Lib.hid (bthen HC3.out hb)
  have c1 := HD1.out.cell 0 rfl
  clear hb c0 HC1 HC2 HC3
  go_wp2_with fail
  refine (HI.out _ (H.out.below HD3.out)).mono ?_
  rintro e w3 (⟨c, p, hr, rfl, hF⟩ | ⟨n, lv, k', hr, rfl, hP, hF, hO⟩)
  · have HR := Lib.hid hr
    have HF := Lib.hid ((Fr.of_below HD3.out).trans hF)
    clear hr hF c1
    go_wp2_with fail
    exact ⟨rfl, .inl ⟨c, p, HR.out, rfl, HF.out⟩⟩
  · obtain ⟨A, ca, rfl⟩ := hO.lvs
    have HX := Lib.hid (HD2.out.fr hF (fun e => by omega))
    have HE := Lib.hid (EndN.ret hlg hlt hr hP ((Fr.of_below HD3.out).trans hF) hO (show w.heap.size ≤ w.heap.size + 1 by omega) HD2.out.lt)
    clear hr hP hF hO c1
    obtain ⟨r0, r1, r2, r3, r4, r5, r6, r7, r8, r9⟩ := ten_cells HX.out
    obtain ⟨m0, m1, m2, m3, m4, m5, m6, m7, m8, m9⟩ := ten_melt HX.out
    go_wp2_with fail
    refine bodyPost_ret (v := valO n (.slice A n.kids.length ca)) (by simp [results, Tryz.results111, go_sem, r0, r1, r2, r3, r4, r5, r6, r7, r8, r9]) rfl ?_
    exact HE.out
end
end Go.Proofs.YtlnhhffhmeekoaaGreatDoor
namespace Go.Proofs.YtlnhhffhmeekoaaGreatDoor
open Go.RowKit Go.IntWalk

/-- what a closure that fills a node's kids comes to -/
def EndK (T : List Tok) (gt cap g o bn : Nat) (c0 c1 c2 c3 c4 c5 c6 c7 c9 : Value) (W : World) (r : PR (List N)) (e : Ending) (W' : World) : Prop :=
  (∃ c p, r = .bad c p ∧ e = stopV c p ∧ Fr (fun b => g = b ∨ bn = b) W W') ∨
  (∃ l lv k', r = .ok l (T.drop k') ∧ e = .returned (.tuple #[]) ∧ PSt T gt cap g k' o W' ∧ Fr (fun b => g = b ∨ bn = b) W W' ∧ Box bn #[c0, c1, c2, c3, c4, c5, c6, c7, lv, c9] 29 W' ∧ KidRow (fun b => W.heap.size ≤ b) W' lv l ∧ l.length ≤ 300000)
section
variable {T : List Tok} {gt cap g k o f : Nat} {w : World}
theorem EndK.set {bn k' : Nat} {c0 c1 c2 c3 c4 c5 c6 c7 c8 c9 : Value} {r : PR (List N)} {l : List N} {lv : Value} {W1 : World} (hb : bn < w.heap.size) (hne1 : bn ≠ g) (hne2 : bn ≠ gt) (hr : r = .ok l (T.drop k')) (hP : PSt T gt cap g k' o W1) (hF : Fr (fun b => g = b) w W1)
    (hB : Box bn #[c0, c1, c2, c3, c4, c5, c6, c7, c8, c9] 29 W1) (hK : KidRow (fun b => w.heap.size ≤ b) W1 lv l) (hl : l.length ≤ 300000) : EndK T gt cap g o bn c0 c1 c2 c3 c4 c5 c6 c7 c9 w r (.returned (.tuple #[])) (W1.setCell ⟨bn, 8, none⟩ lv) := by
  have hf : Fr (fun b => bn = b) W1 (W1.setCell ⟨bn, 8, none⟩ lv) := (Fr.refl _ W1).set1 bn 8 rfl lv
  have hbox := hB.set 8 lv
  simp only [List.setIfInBounds_toArray, List.set_cons_zero, List.set_cons_succ] at hbox
  exact .inr ⟨l, lv, k', hr, rfl, hP.fr hf hne1 hne2, (hF.mono fun b _ h => .inl h).past hf (fun b _ h => .inr h), hbox, hK.fr hf (fun b _ h1 h2 => by omega), hl⟩
set_option maxRecDepth 20000 in
set_option maxHeartbeats 1000000 in
theorem k_unc (ih : KnotE T gt cap g f) (h : PSt T gt cap g k o w) (hne : pUn f o (T.drop k) ≠ .out) (bp bn : Nat) (c0 c1 c2 c3 c4 c5 c6 c7 c8 c9 : Value) (hbp : Box bp #[pPtr g] 52 w) (hbn : Box bn #[c0, c1, c2, c3, c4, c5, c6, c7, c8, c9] 29 w) (hne1 : bn ≠ g) (hne2 : bn ≠ gt) :
    Calls Tryz.prog 170 #[pPtr bp, pPtr bn] w (EndK T gt cap g o bn c0 c1 c2 c3 c4 c5 c6 c7 c9 w ((pUn f o (T.drop k)).bind fun n r => .ok [n] r)) := by
  have HI := Lib.hid (ih.un o k w h hne)
  have p0 := hbp.cell 0 rfl
  have hsz := hbn.lt
  have HN := Lib.hid hbn
  have hlg := h.box.lt
  have hlt := h.ltt
  clear h hbp hbn hne ih
  go_enter Tryz.func170, Tryz.ntmps170
  go_wp2_with fail
  refine HI.out.mono ?_
  rintro e w1 (⟨c, p, hr, rfl, hF⟩ | ⟨n, lv, k', hr, rfl, hP, hF, hO⟩)
  · have HR := Lib.hid hr
    have HF := Lib.hid hF
    clear hr hF
    go_wp2_with fail
    exact ⟨rfl, .inl ⟨c, p, by rw [HR.out]; rfl, rfl, HF.out.mono fun b _ h => .inl h⟩⟩
  · obtain ⟨A, ca, rfl⟩ := hO.lvs
    have HB := Lib.hid ((HN.out.fr hF (fun e => hne1 e.symm)).below (p_al w1 (.cells (cellsN n (.slice A n.kids.length ca)).toArray 29)))
    have HK := Lib.hid (KidRow.one hO hF.size _ rfl)
    have HR := Lib.hid hr
    have HP := Lib.hid (hP.below (p_al w1 (.cells (cellsN n (.slice A n.kids.length ca)).toArray 29)))
    have HF := Lib.hid (hF.alloc (.cells (cellsN n (.slice A n.kids.length ca)).toArray 29))
    have hz := hF.size
    clear hr hP hF hO
    obtain ⟨r0, r1, r2, r3, r4, r5, r6, r7, r8, r9⟩ := ten_cells HB.out
    obtain ⟨m0, m1, m2, m3, m4, m5, m6, m7, m8, m9⟩ := ten_melt HB.out
    have HE := Lib.hid (EndK.set (r := (pUn f o (T.drop k)).bind fun n r => .ok [n] r) hsz hne1 hne2 (by rw [HR.out]; rfl) HP.out HF.out HB.out HK.out (by simp))
    go_wp2_with fail
    go_end0
    exact HE.out
theorem drop_tail (T : List Tok) (k : Nat) : (T.drop k).tail = T.drop (k + 1) := by rw [List.tail_drop]
theorem un_ent (a : Array Value) (w : World) : (callFunc 170 a).run Tryz.prog w = .ok (.enter 170 a) w := by kernel_rfl
abbrev nod16 (k : Int) : Array Value := #[.int .i64 k, .string ⟨#[]⟩, .int .i64 0, .int .i64 0, .string ⟨#[]⟩, .slice none 0 0, .slice none 0 0, .bool false, .slice none 0 0, .int .i64 0]
/-- within, of a closure that fills the kids of the node in a box -/
theorem within_kids (hT : TkOk T) (h : PSt T gt cap g k o w) (h1 : k + 1 < T.length) (ho : o < 24) (F bp bn : Nat) (hent : ∀ w, (callFunc F #[pPtr bp, pPtr bn]).run Tryz.prog w = .ok (.enter F #[pPtr bp, pPtr bn]) w) (hbn : bn < w.heap.size) (hne2 : bn ≠ gt) (hne1 : bn ≠ g) (c0 c1 c2 c3 c4 c5 c6 c7 c8 c9 : Value)
    (hB : Box bn #[c0, c1, c2, c3, c4, c5, c6, c7, c8, c9] 29 w) (hbp : Box bp #[pPtr g] 52 w) (hne3 : bp ≠ g) (r : PR (List N))
    (hC : ∀ W1, PSt T gt cap g (k + 1) (o + 1) W1 → Box bp #[pPtr g] 52 W1 → Box bn #[c0, c1, c2, c3, c4, c5, c6, c7, c8, c9] 29 W1 → Calls Tryz.prog F #[pPtr bp, pPtr bn] W1 (EndK T gt cap g (o + 1) bn c0 c1 c2 c3 c4 c5 c6 c7 c9 W1 r)) :
    Calls Tryz.prog 169 #[pPtr g, .func (.func F) #[] #[pPtr bp, pPtr bn]] w fun e w' =>
      (∃ c p, r = .bad c p ∧ e = stopV c p ∧ Fr (fun b => g = b ∨ bn = b) w w') ∨
      (∃ l lv k', r = .ok l (T.drop k') ∧ e = .returned (tokP (tkAt T k)) ∧ PSt T gt cap g k' o w' ∧ Fr (fun b => g = b ∨ bn = b) w w' ∧ Box bn #[c0, c1, c2, c3, c4, c5, c6, c7, lv, c9] 29 w' ∧ KidRow (fun b => w.heap.size + 2 ≤ b) w' lv l ∧ l.length ≤ 300000) := by
  have hlg := h.box.lt
  refine (p_within hT h h1 ho F #[pPtr bp, pPtr bn] hent (fun b => bn = b) (fun b hb => by subst hb; exact ⟨hbn, hne2⟩) (fun c p => r = .bad c p) (fun k' W1 W2 => ∃ l lv, r = .ok l (T.drop k') ∧ Box bn #[c0, c1, c2, c3, c4, c5, c6, c7, lv, c9] 29 W2 ∧ KidRow (fun b => W1.heap.size ≤ b) W2 lv l ∧ l.length ≤ 300000) ?_).mono ?_
  · intro W1 hP hF hz
    refine (hC W1 hP (hbp.fr hF fun e => hne3 e.symm) (hB.fr hF fun e => hne1 e.symm)).mono ?_
    rintro e W2 (⟨c, p, hr, rfl, hF2⟩ | ⟨l, lv, k', hr, rfl, hP2, hF2, hB2, hK, hl⟩)
    · exact .inl ⟨c, p, rfl, hr, hF2⟩
    · exact .inr ⟨rfl, k', hP2, hF2, l, lv, hr, hB2, hK, hl⟩
  · rintro e w' (⟨c, p, rfl, hr, hF⟩ | ⟨rfl, k', W1, W2, hP, ⟨l, lv, hr, hB2, hK, hl⟩, hF1, hz, hF2, hF3⟩)
    · exact .inl ⟨c, p, hr, rfl, hF⟩
    · refine .inr ⟨l, lv, k', hr, rfl, hP, ?_, hB2.fr hF3 (fun h => h.elim (fun e => hne1 e.symm) (fun e => by omega)), (hK.fr hF3 fun b hb h1 h2 => ?_).imp (fun b _ h => by omega), hl⟩
      · exact ((hF1.mono fun b _ h => .inl h).trans hF2).past hF3 fun b hb h => h.elim (fun h => .inl h) (fun h => by omega)
      · rcases h2 with h2 | h2 <;> omega
end
end Go.Proofs.YtlnhhffhmeekoaaGreatDoor
namespace Go.Proofs.YtlnhhffhmeekoaaGreatDoor
open Go.RowKit Go.IntWalk
section
variable {T : List Tok} {gt cap g k o f : Nat} {w : World}
set_option maxRecDepth 20000 in
set_option maxHeartbeats 2000000 in
theorem k_un_a (hT : TkOk T) (ih : KnotE T gt cap g f) (h : PSt T gt cap g k o w) (h1 : isT [45] (T.drop k) = true) (hne : pUn (f + 1) o (T.drop k) ≠ .out) :
    Calls Tryz.prog 111 #[pPtr g] w (EndN T gt cap g o w (pUn (f + 1) o (T.drop k))) := by
  have hk1 := isT_next hT h.lt h1
  have hs : pUn (f + 1) o (T.drop k) = opensT o (T.drop k) fun r => (pUn f (o + 1) r).bind fun n r => .ok (nodeP 16 (hdT (T.drop k)).text [n] (hdT (T.drop k)).pos) r := by rw [pUn, if_pos (.inl h1)]
  rw [hs] at hne ⊢
  clear hs
  unfold opensT at hne ⊢
  rw [drop_tail, hd_tkAt T k h.lt] at hne ⊢
  have hat := hT.at h.lt
  obtain ⟨b1, b2, b3⟩ := two_new w #[pPtr g] zNode 52 29
  have HB1 := Lib.hid b1
  have HB2 := Lib.hid b2
  have HB3 := Lib.hid b3
  have hlg := h.box.lt
  have hlt := h.ltt
  have H := Lib.hid h
  have H1 := Lib.hid h1
  have HNe := Lib.hid hne
  have Hih := Lib.hid ih
  have Hat := Lib.hid hat
  clear b1 b2 b3 h1 hne ih hat
  generalize hR : (if o = 24 then PR.bad 171 (tkAt T k).pos else (pUn f (o + 1) (T.drop (k + 1))).bind fun n r => .ok (nodeP 16 (tkAt T k).text [n] (tkAt T k).pos) r) = R at *
  have HRR := Lib.hid hR
  clear hR h
  go_enter Tryz.func111, Tryz.ntmps111
  go_wp2_with fail
  refine (p_is_at (H.out.below HB3.out) [45] true H1.out).mono ?_
  rintro e w1 ⟨rfl, hb⟩
  have HC1 := Lib.hid (HB1.out.below hb)
  have HC2 := Lib.hid (HB2.out.below hb)
  have HC3 := Lib.hid (bthen HB3.out hb)
  have c0 := HC1.out.cell 0 rfl
  have c0' := fun X => bcell (p_al w1 X) c0
  clear hb HB1 HB2 HB3
  go_wp2_with fail
  have HE1 := Lib.hid (HC1.out.below (p_al w1 (.cells (nod16 16) 29)))
  have HE2 := Lib.hid (HC2.out.below (p_al w1 (.cells (nod16 16) 29)))
  have HE3 := Lib.hid (bthen HC3.out (p_al w1 (.cells (nod16 16) 29)))
  have HE4 := Lib.hid (Box.new w1 (nod16 16) 29)
  have hz := HC2.out.lt
  have hz0 := HC3.out.size
  clear c0 c0' HC1 HC2
  by_cases ho : o = 24
  · subst ho
    have HR := Lib.hid (show R = .bad 171 (tkAt T k).pos by rw [← HRR.out, if_pos rfl])
    refine (p_within_no (H.out.below HE3.out) _).mono ?_
    rintro e w3 ⟨rfl, hF⟩
    have HF := Lib.hid ((Fr.of_below HE3.out).trans hF)
    clear hF
    go_wp2_with fail
    exact ⟨rfl, .inl ⟨_, _, HR.out, rfl, HF.out⟩⟩
  · have HR := Lib.hid (show (pUn f (o + 1) (T.drop (k + 1))).bind (fun n r => .ok (nodeP 16 (tkAt T k).text [n] (tkAt T k).pos) r) = R by rw [← HRR.out, if_neg ho])
    have hin : pUn f (o + 1) (T.drop (k + 1)) ≠ .out := fun e => HNe.out (by rw [← HR.out, e]; rfl)
    have Hin := Lib.hid hin
    clear hin
    refine (within_kids hT (H.out.below HE3.out) hk1 (by have := H.out.open_; omega) 170 w.heap.size w1.heap.size (un_ent _) (by simp) (by omega) (by omega) _ _ _ _ _ _ _ _ _ _ HE4.out HE1.out (by omega) ((pUn f (o + 1) (T.drop (k + 1))).bind fun n r => .ok [n] r) ?_).mono ?_
    · intro W1 hP hb1 hb2
      exact k_unc Hih.out hP Hin.out _ _ _ _ _ _ _ _ _ _ _ _ hb1 hb2 (by omega) (by omega)
    · rintro e w3 (⟨c, p, hr, rfl, hF⟩ | ⟨l, lv, k', hr, rfl, hP, hF, hB, hK, _⟩)
      · have HF := Lib.hid (((Fr.of_below HE3.out).mono (fun _ _ h => h)).past hF (fun b hb h => h.elim (fun h => h) (fun h => by omega)))
        have HQ := Lib.hid (show R = .bad c p by
          rw [← HR.out]
          cases hz : pUn f (o + 1) (T.drop (k + 1)) with
          | out => rw [hz] at hr; cases hr
          | bad e q => rw [hz] at hr; injection hr with h1 h2; subst h1 h2; rfl
          | ok n ts => rw [hz] at hr; cases hr)
        clear hF hr
        go_wp2_with fail
        exact ⟨rfl, .inl ⟨_, _, HQ.out, rfl, HF.out⟩⟩
      · obtain ⟨n, hn, rfl⟩ : ∃ n, pUn f (o + 1) (T.drop (k + 1)) = .ok n (T.drop k') ∧ l = [n] := by
          cases hz : pUn f (o + 1) (T.drop (k + 1)) with
          | out => rw [hz] at hr; cases hr
          | bad e q => rw [hz] at hr; cases hr
          | ok n ts => rw [hz] at hr; injection hr with h1 h2; subst h1 h2; exact ⟨n, rfl, rfl⟩
        have HQ := Lib.hid (show R = .ok (nodeP 16 (tkAt T k).text [n] (tkAt T k).pos) (T.drop k') by rw [← HR.out, hn]; rfl)
        obtain ⟨A, ca, rfl⟩ := hK.lvs
        generalize tkAt T k = X at *
        have HB5 := Lib.hid hB
        have HK5 := Lib.hid hK
        have HP5 := Lib.hid hP
        have hx : w.heap.size + 1 < w3.heap.size := by have := hF.size; simp at this; omega
        have hx2 : w1.heap.size < w3.heap.size := by have := hF.size; simp at this; omega
        have HX5 := Lib.hid (HE2.out.fr hF (fun h => h.elim (fun e => by omega) (fun e => by omega)))
        have HF5 := Lib.hid (((Fr.of_below HE3.out).mono (fun _ _ h => h)).past hF (fun b hb h => h.elim (fun h => h) (fun h => by omega)))
        obtain ⟨s0, s1, s2, s3, s4, s5, s6, s7, s8, s9⟩ := ten_cells hB
        obtain ⟨q0, q1, q2, q3, q4, q5, q6, q7, q8, q9⟩ := ten_melt hB
        clear hr hn hP hF hB hK
        go_wp2_with fail
        go_region
        have hfr : Fr (fun b => w1.heap.size = b) w3 ((((w3.setCell ⟨w1.heap.size, 1, none⟩ (.string ⟨X.text.toArray⟩)).setCell ⟨w1.heap.size, 9, none⟩ (.int .i64 (X.pos : Int))).alloc (.cells #[.int .i64 (X.kind : Int), .string ⟨X.text.toArray⟩, .int .i64 (X.n : Int), .int .i64 (X.pos : Int)] 41)).drew) := ((((Fr.refl _ w3).set1 _ 1 rfl _).set1 _ 9 rfl _).alloc _).drew
        have hbx : Box w1.heap.size #[.int .i64 16, .string ⟨X.text.toArray⟩, .int .i64 0, .int .i64 0, .string ⟨#[]⟩, .slice none 0 0, .slice none 0 0, .bool false, .slice A 1 ca, .int .i64 (X.pos : Int)] 29 ((((w3.setCell ⟨w1.heap.size, 1, none⟩ (.string ⟨X.text.toArray⟩)).setCell ⟨w1.heap.size, 9, none⟩ (.int .i64 (X.pos : Int))).alloc (.cells #[.int .i64 (X.kind : Int), .string ⟨X.text.toArray⟩, .int .i64 (X.n : Int), .int .i64 (X.pos : Int)] 41)).drew) := by
          have := ((HB5.out.set 1 (.string ⟨X.text.toArray⟩)).set 9 (.int .i64 (X.pos : Int))).below (p_al _ (.cells #[.int .i64 (X.kind : Int), .string ⟨X.text.toArray⟩, .int .i64 (X.n : Int), .int .i64 (X.pos : Int)] 41))
          simp only [List.setIfInBounds_toArray, List.set_cons_zero, List.set_cons_succ] at this
          exact this
        have HP6 := Lib.hid (HP5.out.fr hfr (by omega) (by omega))
        have HX6 := Lib.hid (HX5.out.fr hfr (by omega))
        have HF6 := Lib.hid (HF5.out.past hfr (fun b _ h => by omega))
        have HK6 := Lib.hid ((HK5.out.fr hfr (fun b _ h1 h2 => by simp at h1; omega)).imp (ok' := fun b => w1.heap.size ≤ b) (fun b _ h => by simp at h; omega))
        have HO := Lib.hid (OwN.of (n := nodeP 16 X.text [n] X.pos) (by constructor <;> simp [N.kind]) (by have := Hat.out; constructor <;> simp [N.spot] <;> omega) (by have := Hat.out; simp [N.text]; omega) ⟨by constructor <;> simp [V.kind, V.zero, N.val], by constructor <;> simp [V.num, V.zero, N.val], by simp [V.str, V.zero, N.val], rfl, rfl⟩ (by simp [N.kids]) HK6.out)
        obtain ⟨r0, r1, r2, r3, r4, r5, r6, r7, r8, r9⟩ := ten_cells hbx
        obtain ⟨t0, t1, t2, t3, t4, t5, t6, t7, t8, t9⟩ := ten_cells HX6.out
        obtain ⟨m0, m1, m2, m3, m4, m5, m6, m7, m8, m9⟩ := ten_melt HX6.out
        clear s0 s1 s2 s3 s4 s5 s6 s7 s8 s9 q0 q1 q2 q3 q4 q5 q6 q7 q8 q9 hbx hfr
        generalize ((((w3.setCell ⟨w1.heap.size, 1, none⟩ (.string ⟨X.text.toArray⟩)).setCell ⟨w1.heap.size, 9, none⟩ (.int .i64 (X.pos : Int))).alloc (.cells #[.int .i64 (X.kind : Int), .string ⟨X.text.toArray⟩, .int .i64 (X.n : Int), .int .i64 (X.pos : Int)] 41)).drew) = W9 at *
        have HE := Lib.hid (EndN.ret hlg hlt HQ.out HP6.out HF6.out HO.out (show w.heap.size ≤ w.heap.size + 1 by omega) (by omega))
        go_wp2_with fail
        refine bodyPost_ret (v := valO (nodeP 16 X.text [n] X.pos) (.slice A 1 ca)) (by simp [results, Tryz.results111, go_sem, t0, t1, t2, t3, t4, t5, t6, t7, t8, t9, N.kind, N.text, N.val, N.flag, N.kids, N.spot, V.zero, V.kind, V.num, V.str]) rfl ?_
        exact HE.out
set_option maxRecDepth 20000 in
set_option maxHeartbeats 2000000 in
theorem k_un_b (hT : TkOk T) (ih : KnotE T gt cap g f) (h : PSt T gt cap g k o w) (h1 : isT [45] (T.drop k) = false) (h2 : isT [33] (T.drop k) = true) (hne : pUn (f + 1) o (T.drop k) ≠ .out) :
    Calls Tryz.prog 111 #[pPtr g] w (EndN T gt cap g o w (pUn (f + 1) o (T.drop k))) := by
  have hk1 := isT_next hT h.lt h2
  have hs : pUn (f + 1) o (T.drop k) = opensT o (T.drop k) fun r => (pUn f (o + 1) r).bind fun n r => .ok (nodeP 16 (hdT (T.drop k)).text [n] (hdT (T.drop k)).pos) r := by rw [pUn, if_pos (.inr h2)]
  rw [hs] at hne ⊢
  clear hs
  unfold opensT at hne ⊢
  rw [drop_tail, hd_tkAt T k h.lt] at hne ⊢
  have hat := hT.at h.lt
  obtain ⟨b1, b2, b3⟩ := two_new w #[pPtr g] zNode 52 29
  have HB1 := Lib.hid b1
  have HB2 := Lib.hid b2
  have HB3 := Lib.hid b3
  have hlg := h.box.lt
  have hlt := h.ltt
  have H := Lib.hid h
  have H1 := Lib.hid h1
  have H2 := Lib.hid h2
  clear h2
  have HNe := Lib.hid hne
  have Hih := Lib.hid ih
  have Hat := Lib.hid hat
  clear b1 b2 b3 h1 hne ih hat
  generalize hR : (if o = 24 then PR.bad 171 (tkAt T k).pos else (pUn f (o + 1) (T.drop (k + 1))).bind fun n r => .ok (nodeP 16 (tkAt T k).text [n] (tkAt T k).pos) r) = R at *
  have HRR := Lib.hid hR
  clear hR h
  go_enter Tryz.func111, Tryz.ntmps111
  go_wp2_with fail
  refine (p_is_at (H.out.below HB3.out) [45] false H1.out).mono ?_
  rintro e w1 ⟨rfl, hb⟩
  have HC1 := Lib.hid (HB1.out.below hb)
  have HC2 := Lib.hid (HB2.out.below hb)
  have HC3 := Lib.hid (bthen HB3.out hb)
  have c0 := HC1.out.cell 0 rfl
  have c0' := fun X => bcell (p_al w1 X) c0
  clear hb HB1 HB2 HB3
  go_wp2_with fail
  refine (p_is_at (H.out.below HC3.out) [33] true H2.out).mono ?_
  rintro e w2 ⟨rfl, hb⟩
  have HD1 := Lib.hid (HC1.out.below hb)
  have HD2 := Lib.hid (HC2.out.below hb)
  have HD3 := Lib.hid (bthen HC3.out hb)
  clear hb c0 c0' HC1 HC2 HC3
  have c0 := HD1.out.cell 0 rfl
  have c0' := fun X => bcell (p_al w2 X) c0
  go_wp2_with fail
  have HE1 := Lib.hid (HD1.out.below (p_al w2 (.cells (nod16 16) 29)))
  have HE2 := Lib.hid (HD2.out.below (p_al w2 (.cells (nod16 16) 29)))
  have HE3 := Lib.hid (bthen HD3.out (p_al w2 (.cells (nod16 16) 29)))
  have HE4 := Lib.hid (Box.new w2 (nod16 16) 29)
  have hz := HD2.out.lt
  have hz0 := HD3.out.size
  clear c0 c0' HD1 HD2
  by_cases ho : o = 24
  · subst ho
    have HR := Lib.hid (show R = .bad 171 (tkAt T k).pos by rw [← HRR.out, if_pos rfl])
    refine (p_within_no (H.out.below HE3.out) _).mono ?_
    rintro e w3 ⟨rfl, hF⟩
    have HF := Lib.hid ((Fr.of_below HE3.out).trans hF)
    clear hF
    go_wp2_with fail
    exact ⟨rfl, .inl ⟨_, _, HR.out, rfl, HF.out⟩⟩
  · have HR := Lib.hid (show (pUn f (o + 1) (T.drop (k + 1))).bind (fun n r => .ok (nodeP 16 (tkAt T k).text [n] (tkAt T k).pos) r) = R by rw [← HRR.out, if_neg ho])
    have hin : pUn f (o + 1) (T.drop (k + 1)) ≠ .out := fun e => HNe.out (by rw [← HR.out, e]; rfl)
    have Hin := Lib.hid hin
    clear hin
    refine (within_kids hT (H.out.below HE3.out) hk1 (by have := H.out.open_; omega) 170 w.heap.size w2.heap.size (un_ent _) (by simp) (by omega) (by omega) _ _ _ _ _ _ _ _ _ _ HE4.out HE1.out (by omega) ((pUn f (o + 1) (T.drop (k + 1))).bind fun n r => .ok [n] r) ?_).mono ?_
    · intro W1 hP hb1 hb2
      exact k_unc Hih.out hP Hin.out _ _ _ _ _ _ _ _ _ _ _ _ hb1 hb2 (by omega) (by omega)
    · rintro e w3 (⟨c, p, hr, rfl, hF⟩ | ⟨l, lv, k', hr, rfl, hP, hF, hB, hK, _⟩)
      · have HF := Lib.hid (((Fr.of_below HE3.out).mono (fun _ _ h => h)).past hF (fun b hb h => h.elim (fun h => h) (fun h => by omega)))
        have HQ := Lib.hid (show R = .bad c p by
          rw [← HR.out]
          cases hz : pUn f (o + 1) (T.drop (k + 1)) with
          | out => rw [hz] at hr; cases hr
          | bad e q => rw [hz] at hr; injection hr with h1 h2; subst h1 h2; rfl
          | ok n ts => rw [hz] at hr; cases hr)
        clear hF hr
        go_wp2_with fail
        exact ⟨rfl, .inl ⟨_, _, HQ.out, rfl, HF.out⟩⟩
      · obtain ⟨n, hn, rfl⟩ : ∃ n, pUn f (o + 1) (T.drop (k + 1)) = .ok n (T.drop k') ∧ l = [n] := by
          cases hz : pUn f (o + 1) (T.drop (k + 1)) with
          | out => rw [hz] at hr; cases hr
          | bad e q => rw [hz] at hr; cases hr
          | ok n ts => rw [hz] at hr; injection hr with h1 h2; subst h1 h2; exact ⟨n, rfl, rfl⟩
        have HQ := Lib.hid (show R = .ok (nodeP 16 (tkAt T k).text [n] (tkAt T k).pos) (T.drop k') by rw [← HR.out, hn]; rfl)
        obtain ⟨A, ca, rfl⟩ := hK.lvs
        generalize tkAt T k = X at *
        have HB5 := Lib.hid hB
        have HK5 := Lib.hid hK
        have HP5 := Lib.hid hP
        have hx : w.heap.size + 1 < w3.heap.size := by have := hF.size; simp at this; omega
        have hx2 : w2.heap.size < w3.heap.size := by have := hF.size; simp at this; omega
        have HX5 := Lib.hid (HE2.out.fr hF (fun h => h.elim (fun e => by omega) (fun e => by omega)))
        have HF5 := Lib.hid (((Fr.of_below HE3.out).mono (fun _ _ h => h)).past hF (fun b hb h => h.elim (fun h => h) (fun h => by omega)))
        obtain ⟨s0, s1, s2, s3, s4, s5, s6, s7, s8, s9⟩ := ten_cells hB
        obtain ⟨q0, q1, q2, q3, q4, q5, q6, q7, q8, q9⟩ := ten_melt hB
        clear hr hn hP hF hB hK
        go_wp2_with fail
        go_region
        have hfr : Fr (fun b => w2.heap.size = b) w3 ((((w3.setCell ⟨w2.heap.size, 1, none⟩ (.string ⟨X.text.toArray⟩)).setCell ⟨w2.heap.size, 9, none⟩ (.int .i64 (X.pos : Int))).alloc (.cells #[.int .i64 (X.kind : Int), .string ⟨X.text.toArray⟩, .int .i64 (X.n : Int), .int .i64 (X.pos : Int)] 41)).drew) := ((((Fr.refl _ w3).set1 _ 1 rfl _).set1 _ 9 rfl _).alloc _).drew
        have hbx : Box w2.heap.size #[.int .i64 16, .string ⟨X.text.toArray⟩, .int .i64 0, .int .i64 0, .string ⟨#[]⟩, .slice none 0 0, .slice none 0 0, .bool false, .slice A 1 ca, .int .i64 (X.pos : Int)] 29 ((((w3.setCell ⟨w2.heap.size, 1, none⟩ (.string ⟨X.text.toArray⟩)).setCell ⟨w2.heap.size, 9, none⟩ (.int .i64 (X.pos : Int))).alloc (.cells #[.int .i64 (X.kind : Int), .string ⟨X.text.toArray⟩, .int .i64 (X.n : Int), .int .i64 (X.pos : Int)] 41)).drew) := by
          have := ((HB5.out.set 1 (.string ⟨X.text.toArray⟩)).set 9 (.int .i64 (X.pos : Int))).below (p_al _ (.cells #[.int .i64 (X.kind : Int), .string ⟨X.text.toArray⟩, .int .i64 (X.n : Int), .int .i64 (X.pos : Int)] 41))
          simp only [List.setIfInBounds_toArray, List.set_cons_zero, List.set_cons_succ] at this
          exact this
        have HP6 := Lib.hid (HP5.out.fr hfr (by omega) (by omega))
        have HX6 := Lib.hid (HX5.out.fr hfr (by omega))
        have HF6 := Lib.hid (HF5.out.past hfr (fun b _ h => by omega))
        have HK6 := Lib.hid ((HK5.out.fr hfr (fun b _ h1 h2 => by simp at h1; omega)).imp (ok' := fun b => w2.heap.size ≤ b) (fun b _ h => by simp at h; omega))
        have HO := Lib.hid (OwN.of (n := nodeP 16 X.text [n] X.pos) (by constructor <;> simp [N.kind]) (by have := Hat.out; constructor <;> simp [N.spot] <;> omega) (by have := Hat.out; simp [N.text]; omega) ⟨by constructor <;> simp [V.kind, V.zero, N.val], by constructor <;> simp [V.num, V.zero, N.val], by simp [V.str, V.zero, N.val], rfl, rfl⟩ (by simp [N.kids]) HK6.out)
        obtain ⟨r0, r1, r2, r3, r4, r5, r6, r7, r8, r9⟩ := ten_cells hbx
        obtain ⟨t0, t1, t2, t3, t4, t5, t6, t7, t8, t9⟩ := ten_cells HX6.out
        obtain ⟨m0, m1, m2, m3, m4, m5, m6, m7, m8, m9⟩ := ten_melt HX6.out
        clear s0 s1 s2 s3 s4 s5 s6 s7 s8 s9 q0 q1 q2 q3 q4 q5 q6 q7 q8 q9 hbx hfr
        generalize ((((w3.setCell ⟨w2.heap.size, 1, none⟩ (.string ⟨X.text.toArray⟩)).setCell ⟨w2.heap.size, 9, none⟩ (.int .i64 (X.pos : Int))).alloc (.cells #[.int .i64 (X.kind : Int), .string ⟨X.text.toArray⟩, .int .i64 (X.n : Int), .int .i64 (X.pos : Int)] 41)).drew) = W9 at *
        have HE := Lib.hid (EndN.ret hlg hlt HQ.out HP6.out HF6.out HO.out (show w.heap.size ≤ w.heap.size + 1 by omega) (by omega))
        go_wp2_with fail
        refine bodyPost_ret (v := valO (nodeP 16 X.text [n] X.pos) (.slice A 1 ca)) (by simp [results, Tryz.results111, go_sem, t0, t1, t2, t3, t4, t5, t6, t7, t8, t9, N.kind, N.text, N.val, N.flag, N.kids, N.spot, V.zero, V.kind, V.num, V.str]) rfl ?_
        exact HE.out
end
end Go.Proofs.YtlnhhffhmeekoaaGreatDoor
