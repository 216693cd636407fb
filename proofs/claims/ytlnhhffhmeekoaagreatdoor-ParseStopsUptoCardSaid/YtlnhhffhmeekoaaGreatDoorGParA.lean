/- The parser's state in memory: its struct, the tokens, what a step changes. Contracts of the parser's peek, next, fail, is, take, must, name. -/
import Derived.Test.YtlnhhffhmeekoaaGreatDoorGParP
import Derived.Test.YtlnhhffhmeekoaaGreatDoorBoxes
import Derived.Tactics
import Derived.Tactics2
import Derived.WalkKit
import Derived.WalkSpells
import Derived.WalkLawsBesides
import Derived.Outline
import Derived.Lib.Hide
set_option linter.unusedVariables false
set_option linter.unusedSimpArgs false
namespace Go.Proofs.YtlnhhffhmeekoaaGreatDoor
open Go.RowKit

/-- token k -/
def tkAt (l : List Tok) (k : Nat) : Tok := l.getD k ⟨0, [], 0, 0⟩
/-- tokens as lex.All gives them -/
structure TkOk (T : List Tok) : Prop where
  last : ∃ u e, T = u ++ [e] ∧ e.kind = 0
  tok : ∀ t ∈ T, t.kind ≤ 5 ∧ t.text.length ≤ 8192 ∧ t.n < 9223372036854775808 ∧ t.pos ≤ 8192
  len : T.length ≤ 8193
/-- the parser in block g: its tokens from k on, so many open; the tokens' cells in block gt -/
structure PSt (T : List Tok) (gt cap g k o : Nat) (W : World) : Prop where
  box : Box g #[.slice (some ⟨gt, k * 4, none⟩) (T.length - k : Nat) (cap - k), .int .i64 (o : Int)] 87 W
  cell : ∀ i, i < T.length → W.cell? ⟨gt, i * 4, none⟩ = some (.int .i64 ((tkAt T i).kind : Int)) ∧ W.cell? ⟨gt, i * 4 + 1, none⟩ = some (.string ⟨(tkAt T i).text.toArray⟩) ∧ W.cell? ⟨gt, i * 4 + 2, none⟩ = some (.int .i64 ((tkAt T i).n : Int)) ∧ W.cell? ⟨gt, i * 4 + 3, none⟩ = some (.int .i64 ((tkAt T i).pos : Int))
  ne : gt ≠ g
  lt : k < T.length
  cap1 : T.length ≤ cap
  cap2 : cap ≤ 9223372036854775807
  open_ : o ≤ 24
theorem PSt.fr {T : List Tok} {gt cap g k o : Nat} {W W' : World} {ok : Nat → Prop} (h : PSt T gt cap g k o W) (hf : Fr ok W W') (h1 : ¬ ok g) (h2 : ¬ ok gt) : PSt T gt cap g k o W' :=
  ⟨h.box.fr hf h1, fun i hi => ⟨hf.cell (h.cell i hi).1 h2, hf.cell (h.cell i hi).2.1 h2, hf.cell (h.cell i hi).2.2.1 h2, hf.cell (h.cell i hi).2.2.2 h2⟩, h.ne, h.lt, h.cap1, h.cap2, h.open_⟩
theorem PSt.below {T : List Tok} {gt cap g k o : Nat} {W W' : World} (h : PSt T gt cap g k o W) (hb : Below W.heap.size W W') : PSt T gt cap g k o W' :=
  h.fr (ok := fun _ => False) (Fr.of_below hb) (fun h => h) (fun h => h)
theorem PSt.same {T : List Tok} {gt cap g k o : Nat} {W W' : World} (h : PSt T gt cap g k o W) (hh : W'.heap = W.heap) : PSt T gt cap g k o W' :=
  ⟨h.box.of (by rw [hh]), fun i hi => by
    have hc : ∀ a, W'.cell? a = W.cell? a := fun a => by unfold World.cell?; rw [hh]
    rw [hc, hc, hc, hc]; exact h.cell i hi, h.ne, h.lt, h.cap1, h.cap2, h.open_⟩
/-- the next token taken -/
theorem PSt.step {T : List Tok} {gt cap g k o : Nat} {W : World} (h : PSt T gt cap g k o W) (h1 : k + 1 < T.length) : PSt T gt cap g (k + 1) o (W.setCell ⟨g, 0, none⟩ (.slice (some ⟨gt, (k + 1) * 4, none⟩) (T.length - (k + 1)) (cap - (k + 1)))) := by
  refine ⟨h.box.set 0 _, fun i hi => ?_, h.ne, h1, h.cap1, h.cap2, h.open_⟩
  have hf : Fr (fun b => g = b) W (W.setCell ⟨g, 0, none⟩ (.slice (some ⟨gt, (k + 1) * 4, none⟩) (T.length - (k + 1)) (cap - (k + 1)))) := (Fr.refl _ W).set1 g 0 rfl _
  have hn : ¬ (g = gt) := fun e => h.ne e.symm
  exact ⟨hf.cell (h.cell i hi).1 hn, hf.cell (h.cell i hi).2.1 hn, hf.cell (h.cell i hi).2.2.1 hn, hf.cell (h.cell i hi).2.2.2 hn⟩
theorem PSt.step1 {T : List Tok} {gt cap g k o : Nat} {W : World} (h : PSt T gt cap g k o W) (h1 : k + 1 < T.length) : PSt T gt cap g (k + 1) o (W.setCell ⟨g, 0, none⟩ (.slice (some ⟨gt, k * 4 + 4, none⟩) (T.length - k - 1) (cap - k - 1))) := by
  have := h.step h1
  rwa [show (k + 1) * 4 = k * 4 + 4 by omega, show T.length - (k + 1) = T.length - k - 1 by omega, show cap - (k + 1) = cap - k - 1 by omega] at this
/-- as many open as is written -/
theorem PSt.opn {T : List Tok} {gt cap g k o : Nat} {W : World} (h : PSt T gt cap g k o W) (o' : Nat) (z : Int) (hz : z = (o' : Int)) (ho : o' ≤ 24) : PSt T gt cap g k o' (W.setCell ⟨g, 1, none⟩ (.int .i64 z)) := by
  subst hz
  refine ⟨h.box.set 1 _, fun i hi => ?_, h.ne, h.lt, h.cap1, h.cap2, ho⟩
  have hf : Fr (fun b => g = b) W (W.setCell ⟨g, 1, none⟩ (.int .i64 (o' : Int))) := (Fr.refl _ W).set1 g 1 rfl _
  have hn : ¬ (g = gt) := fun e => h.ne e.symm
  exact ⟨hf.cell (h.cell i hi).1 hn, hf.cell (h.cell i hi).2.1 hn, hf.cell (h.cell i hi).2.2.1 hn, hf.cell (h.cell i hi).2.2.2 hn⟩
theorem hd_tkAt (T : List Tok) (k : Nat) (h : k < T.length) : hdT (T.drop k) = tkAt T k := by
  rw [hdT, tkAt, List.getD, List.getElem?_eq_getElem h, List.drop_eq_getElem_cons h]
  rfl
/-- behind a token that is not the end there is one -/
theorem TkOk.next {T : List Tok} (h : TkOk T) {k : Nat} (hk : k < T.length) (h0 : (tkAt T k).kind ≠ 0) : k + 1 < T.length := by
  obtain ⟨u, e, rfl, he⟩ := h.last
  by_cases hl : k + 1 < (u ++ [e]).length
  · exact hl
  · exfalso
    have : k = u.length := by simp at hk hl; omega
    subst this
    exact h0 (by simp [tkAt, he])
theorem TkOk.at {T : List Tok} (h : TkOk T) {k : Nat} (hk : k < T.length) : (tkAt T k).kind ≤ 5 ∧ (tkAt T k).text.length ≤ 8192 ∧ (tkAt T k).n < 9223372036854775808 ∧ (tkAt T k).pos ≤ 8192 := by
  rw [tkAt, List.getD, List.getElem?_eq_getElem hk]
  exact h.tok _ (List.getElem_mem hk)
abbrev tokP (t : Tok) : Value := .agg #[.int .i64 (t.kind : Int), .string ⟨t.text.toArray⟩, .int .i64 (t.n : Int), .int .i64 (t.pos : Int)]
abbrev zTok : Array Value := #[.int .i64 0, .string ⟨#[]⟩, .int .i64 0, .int .i64 0]
/-- the parser's struct, in an alloc behind -/
theorem PSt.facts {T : List Tok} {gt cap g k o : Nat} {W : World} (h : PSt T gt cap g k o W) : W.cell? ⟨g, 0, none⟩ = some (.slice (some ⟨gt, k * 4, none⟩) (T.length - k : Nat) (cap - k)) ∧ W.cell? ⟨g, 1, none⟩ = some (.int .i64 (o : Int)) ∧ W.frozen? ⟨g, 0, none⟩ = false ∧ W.frozen? ⟨g, 1, none⟩ = false :=
  ⟨h.box.cell 0 rfl, h.box.cell 1 rfl, h.box.melt 0, h.box.melt 1⟩
theorem PSt.tk {T : List Tok} {gt cap g k o : Nat} {W : World} (h : PSt T gt cap g k o W) : W.cell? ⟨gt, k * 4, none⟩ = some (.int .i64 ((tkAt T k).kind : Int)) ∧ W.cell? ⟨gt, k * 4 + 1, none⟩ = some (.string ⟨(tkAt T k).text.toArray⟩) ∧ W.cell? ⟨gt, k * 4 + 2, none⟩ = some (.int .i64 ((tkAt T k).n : Int)) ∧ W.cell? ⟨gt, k * 4 + 3, none⟩ = some (.int .i64 ((tkAt T k).pos : Int)) := h.cell k h.lt
/-- .. and then what turns, of the blocks that were there, none but those -/
theorem Fr.past {ok ok' : Nat → Prop} {w W W' : World} (h : Fr ok w W) (h' : Fr ok' W W') (hn : ∀ b, b < w.heap.size → ok' b → ok b) : Fr ok w W' :=
  ⟨h'.os.trans h.os, h'.tape.trans h.tape, h'.output.trans h.output, Nat.le_trans h.size h'.size, fun k hk hk' => (h'.block k (Nat.lt_of_lt_of_le hk h.size) fun ho => hk' (hn k hk ho)).trans (h.block k hk hk')⟩
theorem four_facts {g : Nat} {c0 c1 c2 c3 : Value} {t : TypeId} {W : World} (h : Box g #[c0, c1, c2, c3] t W) : W.cell? ⟨g, 0, none⟩ = some c0 ∧ W.cell? ⟨g, 1, none⟩ = some c1 ∧ W.cell? ⟨g, 2, none⟩ = some c2 ∧ W.cell? ⟨g, 3, none⟩ = some c3 ∧
    W.frozen? ⟨g, 0, none⟩ = false ∧ W.frozen? ⟨g, 1, none⟩ = false ∧ W.frozen? ⟨g, 2, none⟩ = false ∧ W.frozen? ⟨g, 3, none⟩ = false :=
  ⟨h.cell 0 rfl, h.cell 1 rfl, h.cell 2 rfl, h.cell 3 rfl, h.melt 0, h.melt 1, h.melt 2, h.melt 3⟩
theorem four_res (g : Nat) (a0 a1 a2 a3 : Value) (W : World) : Fr (fun b => g = b) W ((((W.setCell ⟨g, 0, none⟩ a0).setCell ⟨g, 1, none⟩ a1).setCell ⟨g, 2, none⟩ a2).setCell ⟨g, 3, none⟩ a3) :=
  ((((Fr.refl _ W).set1 g 0 rfl a0).set1 g 1 rfl a1).set1 g 2 rfl a2).set1 g 3 rfl a3
theorem four_set {g : Nat} {c0 c1 c2 c3 : Value} {t : TypeId} {W : World} (h : Box g #[c0, c1, c2, c3] t W) (a0 a1 a2 a3 : Value) : Box g #[a0, a1, a2, a3] t ((((W.setCell ⟨g, 0, none⟩ a0).setCell ⟨g, 1, none⟩ a1).setCell ⟨g, 2, none⟩ a2).setCell ⟨g, 3, none⟩ a3) := by
  have h1 := (((h.set 0 a0).set 1 a1).set 2 a2).set 3 a3
  simp only [List.setIfInBounds_toArray, List.set_cons_zero, List.set_cons_succ] at h1
  exact h1
end Go.Proofs.YtlnhhffhmeekoaaGreatDoor
namespace Go.Proofs.YtlnhhffhmeekoaaGreatDoor
open Go.RowKit Go.IntWalk

theorem p_al (w : World) (X : Obj) : Below w.heap.size w (w.alloc X) := (Below.refl _ _).alloc (Nat.le_refl _) X
theorem p_ri {k : IntKind} {a b : Int} (h : a = b) : Ending.returned (.int k a) = .returned (.int k b) := by rw [h]
theorem p_rb {a b : Bool} (h : a = b) : Ending.returned (.bool a) = .returned (.bool b) := by rw [h]
section
variable {T : List Tok} {gt cap g k o : Nat} {w : World}
set_option maxRecDepth 20000 in
set_option maxHeartbeats 400000 in
theorem p_peek (h : PSt T gt cap g k o w) :
    Calls Tryz.prog 33 #[.pointer (some ⟨g, 0, none⟩)] w fun e w' => e = .returned (tokP (tkAt T k)) ∧ Below w.heap.size w w' := by
  obtain ⟨p0, p1, z0, z1⟩ := (h.below (p_al w (.cells zTok 41))).facts
  obtain ⟨t0, t1, t2, t3⟩ := (h.below (p_al w (.cells zTok 41))).tk
  have hlt := h.lt
  have hpos : 0 < T.length - k := by omega
  have hc2 := h.cap2
  clear h
  generalize tkAt T k = X at *
  go_enter Tryz.func33, Tryz.ntmps33
  go_wp2_with fail
  exact bodyPost_ret (v := tokP X) (by simp [results, Tryz.results33, go_sem]) rfl ⟨rfl, (Below.refl _ _).alloc (Nat.le_refl _) _⟩
set_option maxRecDepth 20000 in
set_option maxHeartbeats 400000 in
theorem p_next (h : PSt T gt cap g k o w) (h1 : k + 1 < T.length) :
    Calls Tryz.prog 113 #[.pointer (some ⟨g, 0, none⟩)] w fun e w' => e = .returned (tokP (tkAt T k)) ∧ PSt T gt cap g (k + 1) o w' ∧ Fr (fun b => g = b) w w' := by
  obtain ⟨p0, p1, z0, z1⟩ := (h.below (p_al w (.cells zTok 41))).facts
  obtain ⟨t0, t1, t2, t3⟩ := (h.below (p_al w (.cells zTok 41))).tk
  have hlt := h.lt
  have hpos : 0 < T.length - k := by omega
  have hpos1 : 1 ≤ T.length - k := by omega
  have hc2 := h.cap2
  have hc1 := h.cap1
  have hlg := h.box.lt
  have H := Lib.hid h
  clear h
  generalize tkAt T k = X at *
  go_enter Tryz.func113, Tryz.ntmps113
  go_wp2_with fail
  exact bodyPost_ret (v := tokP X) (by simp [results, Tryz.results113, go_sem]) rfl ⟨rfl, (((H.out.step1 h1).below (p_al _ _)).below (p_al _ _)), (((Fr.refl _ w).set1 g 0 rfl _).alloc _).alloc _⟩
/-- what fail leaves off with -/
abbrev stopV (c p : Nat) : Ending := .panicked [{ v := .iface 85 (.agg #[.int .i64 (c : Int), .int .i64 (p : Int)]), recovered := false }]
theorem tok_f0 (X : Tok) (W : World) : (Instr.field 41 (tokP X) 0).run Tryz.prog W = .ok (.int .i64 (X.kind : Int)) W := by kernel_rfl
theorem tok_f1 (X : Tok) (W : World) : (Instr.field 41 (tokP X) 1).run Tryz.prog W = .ok (.string ⟨X.text.toArray⟩) W := by kernel_rfl
theorem tok_f3 (X : Tok) (W : World) : (Instr.field 41 (tokP X) 3).run Tryz.prog W = .ok (.int .i64 (X.pos : Int)) W := by kernel_rfl
set_option maxRecDepth 20000 in
set_option maxHeartbeats 400000 in
theorem p_fail (h : PSt T gt cap g k o w) (c : Nat) (C : Int) (hC : C = (c : Int)) :
    Calls Tryz.prog 34 #[.pointer (some ⟨g, 0, none⟩), .int .i64 C] w fun e w' => e = stopV c (tkAt T k).pos ∧ Below w.heap.size w w' := by
  subst hC
  have H := Lib.hid h
  clear h
  have hf := tok_f3 (tkAt T k)
  go_enter Tryz.func34, Tryz.ntmps34
  go_wp2_with fail
  refine (p_peek H.out).mono ?_
  rintro e w1 ⟨rfl, hb⟩
  go_wp2_with fail
  exact ⟨rfl, rfl, hb⟩
theorem isT_b (T : List Tok) (k : Nat) (h : k < T.length) (s : List UInt8) : isT s (T.drop k) = (((((tkAt T k).kind : Int) == 5) || (((tkAt T k).kind : Int) == 2)) && ((tkAt T k).text == s)) := by
  unfold isT
  rw [hd_tkAt T k h]
  rw [Bool.eq_iff_iff]
  simp
  omega
set_option maxRecDepth 20000 in
set_option maxHeartbeats 400000 in
theorem p_is (h : PSt T gt cap g k o w) (s : List UInt8) :
    Calls Tryz.prog 167 #[.pointer (some ⟨g, 0, none⟩), .string ⟨s.toArray⟩] w fun e w' => e = .returned (.bool (isT s (T.drop k))) ∧ Below w.heap.size w w' := by
  have H := Lib.hid h
  have Hb := Lib.hid (isT_b T k h.lt s)
  clear h
  go_enter Tryz.func167, Tryz.ntmps167
  go_wp2_with fail
  refine (p_peek H.out).mono ?_
  rintro e w1 ⟨rfl, hb⟩
  have HB := Lib.hid (bthen hb (p_al w1 (.cells #[.int .i64 ((tkAt T k).kind : Int), .string ⟨(tkAt T k).text.toArray⟩, .int .i64 ((tkAt T k).n : Int), .int .i64 ((tkAt T k).pos : Int)] 41)))
  clear hb
  generalize tkAt T k = X at *
  cases h5 : ((X.kind : Int) == 5) with
  | true =>
    rw [h5, Bool.true_or, Bool.true_and] at Hb
    go_wp2_with fail
    go_ret
    exact ⟨p_rb Hb.out.symm, HB.out⟩
  | false =>
    cases h2 : ((X.kind : Int) == 2) with
    | true =>
      rw [h5, h2, Bool.false_or, Bool.true_and] at Hb
      go_wp2_with fail
      go_ret
      exact ⟨p_rb Hb.out.symm, HB.out⟩
    | false =>
      rw [h5, h2, Bool.false_or, Bool.false_and] at Hb
      go_wp2_with fail
      go_ret
      exact ⟨p_rb Hb.out.symm, HB.out⟩
theorem p_is_at (h : PSt T gt cap g k o w) (s : List UInt8) (b : Bool) (hs : isT s (T.drop k) = b) :
    Calls Tryz.prog 167 #[.pointer (some ⟨g, 0, none⟩), .string ⟨s.toArray⟩] w fun e w' => e = .returned (.bool b) ∧ Below w.heap.size w w' := by
  subst hs
  exact p_is h s
theorem isT_next (hT : TkOk T) (hk : k < T.length) {s : List UInt8} (hs : isT s (T.drop k) = true) : k + 1 < T.length :=
  hT.next hk (by have := isT_kind hs; rwa [hd_tkAt T k hk] at this)
set_option maxRecDepth 20000 in
set_option maxHeartbeats 400000 in
theorem p_take_no (h : PSt T gt cap g k o w) (s : List UInt8) (hs : isT s (T.drop k) = false) :
    Calls Tryz.prog 124 #[.pointer (some ⟨g, 0, none⟩), .string ⟨s.toArray⟩] w fun e w' => e = .returned (.bool false) ∧ Below w.heap.size w w' := by
  have H := Lib.hid h
  have Hs := Lib.hid hs
  clear h hs
  go_enter Tryz.func124, Tryz.ntmps124
  go_wp2_with fail
  refine (p_is_at H.out s false Hs.out).mono ?_
  rintro e w1 ⟨rfl, hb⟩
  go_wp2_with fail
  go_ret
  exact ⟨rfl, hb⟩
set_option maxRecDepth 20000 in
set_option maxHeartbeats 400000 in
theorem p_take_yes (hT : TkOk T) (h : PSt T gt cap g k o w) (s : List UInt8) (hs : isT s (T.drop k) = true) :
    Calls Tryz.prog 124 #[.pointer (some ⟨g, 0, none⟩), .string ⟨s.toArray⟩] w fun e w' => e = .returned (.bool true) ∧ PSt T gt cap g (k + 1) o w' ∧ Fr (fun b => g = b) w w' := by
  have H1 := Lib.hid (isT_next hT h.lt hs)
  have H := Lib.hid h
  have Hs := Lib.hid hs
  clear h hs
  go_enter Tryz.func124, Tryz.ntmps124
  go_wp2_with fail
  refine (p_is_at H.out s true Hs.out).mono ?_
  rintro e w1 ⟨rfl, hb⟩
  go_wp2_with fail
  refine (p_next (H.out.below hb) H1.out).mono ?_
  rintro e w2 ⟨rfl, hP, hF⟩
  have HP := Lib.hid hP
  have HF := Lib.hid hF
  clear hP hF
  go_wp2_with fail
  go_ret
  exact ⟨rfl, HP.out, (Fr.of_below hb).trans HF.out⟩
set_option maxRecDepth 20000 in
set_option maxHeartbeats 400000 in
theorem p_must_no (h : PSt T gt cap g k o w) (s : List UInt8) (hs : isT s (T.drop k) = false) :
    Calls Tryz.prog 125 #[.pointer (some ⟨g, 0, none⟩), .string ⟨s.toArray⟩] w fun e w' => e = stopV 170 (tkAt T k).pos ∧ Below w.heap.size w w' := by
  have H := Lib.hid h
  have Hs := Lib.hid hs
  clear h hs
  go_enter Tryz.func125, Tryz.ntmps125
  go_wp2_with fail
  refine (p_is_at (H.out.below (p_al _ _)) s false Hs.out).mono ?_
  rintro e w1 ⟨rfl, hb⟩
  have HB := Lib.hid (bthen (p_al w (.cells zTok 41)) hb)
  clear hb
  go_wp2_with fail
  refine (p_fail (H.out.below HB.out) 170 170 rfl).mono ?_
  rintro e w2 ⟨rfl, hb⟩
  go_wp2_with fail
  exact ⟨rfl, rfl, bthen HB.out hb⟩
set_option maxRecDepth 20000 in
set_option maxHeartbeats 400000 in
theorem p_must_yes (hT : TkOk T) (h : PSt T gt cap g k o w) (s : List UInt8) (hs : isT s (T.drop k) = true) :
    Calls Tryz.prog 125 #[.pointer (some ⟨g, 0, none⟩), .string ⟨s.toArray⟩] w fun e w' => e = .returned (tokP (tkAt T k)) ∧ PSt T gt cap g (k + 1) o w' ∧ Fr (fun b => g = b) w w' := by
  have H1 := Lib.hid (isT_next hT h.lt hs)
  have H := Lib.hid h
  have Hs := Lib.hid hs
  have HX := Lib.hid (Box.new w zTok 41)
  have hlg := h.box.lt
  have hlt0 := World.block_lt_of_cell? w _ (h.cell 0 (by have := h.lt; omega)).1
  clear h hs
  go_enter Tryz.func125, Tryz.ntmps125
  go_wp2_with fail
  refine (p_is_at (H.out.below (p_al _ _)) s true Hs.out).mono ?_
  rintro e w1 ⟨rfl, hb⟩
  have HB := Lib.hid (bthen (p_al w (.cells zTok 41)) hb)
  have HX1 := Lib.hid (HX.out.below hb)
  clear hb
  go_wp2_with fail
  refine (p_next (H.out.below HB.out) H1.out).mono ?_
  rintro e w2 ⟨rfl, hP, hF⟩
  have HP := Lib.hid hP
  have HF := Lib.hid hF
  have HX2 := Lib.hid (HX1.out.fr hF (by omega))
  clear hP hF
  obtain ⟨c0, c1, c2, c3, m0, m1, m2, m3⟩ := four_facts HX2.out
  go_wp2_with fail
  refine bodyPost_ret (v := tokP (tkAt T k)) (by simp [results, Tryz.results125, go_sem, c0, c1, c2, c3]) rfl ⟨rfl, ?_, ?_⟩
  · exact HP.out.fr (four_res w.heap.size _ _ _ _ w2) (by omega) (by omega)
  · exact ((Fr.of_below HB.out).trans HF.out).past (four_res w.heap.size _ _ _ _ w2) (fun b _ h => by omega)
end
end Go.Proofs.YtlnhhffhmeekoaaGreatDoor
