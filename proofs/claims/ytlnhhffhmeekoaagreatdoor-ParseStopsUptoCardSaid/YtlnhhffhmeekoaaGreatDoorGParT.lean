/- What All gives, as the parser takes it. The parser's walks: read, Program, Expr. The parser's walks: Program, Expr. -/
import Derived.Test.YtlnhhffhmeekoaaGreatDoorGLexT
import Derived.Test.YtlnhhffhmeekoaaGreatDoorGLexP
import Derived.Test.YtlnhhffhmeekoaaGreatDoorGParA
import Derived.Test.YtlnhhffhmeekoaaGreatDoorGParG
set_option linter.unusedVariables false
set_option linter.unusedSimpArgs false
namespace Go.Proofs.YtlnhhffhmeekoaaGreatDoor
open Go.RowKit Go.IntWalk

theorem tvals_tk (l : List Tok) : ∀ (k : Nat), k < l.length → ∀ j, j < 4 → (tvals l)[k * 4 + j]? = (tcells (tkAt l k))[j]? := by
  induction l with
  | nil => intro k hk; simp at hk
  | cons a l ih =>
    intro k hk j hj
    have hlen : (tcells a).length = 4 := rfl
    cases k with
    | zero =>
      simp only [tvals, List.flatMap_cons, tkAt, List.getD_cons_zero, Nat.zero_mul, Nat.zero_add]
      rw [List.getElem?_append_left (by omega)]
    | succ k =>
      have := ih k (by simpa using hk) j hj
      simp only [tvals, List.flatMap_cons, tkAt, List.getD_cons_succ] at *
      rw [List.getElem?_append_right (by omega), show (k + 1) * 4 + j - (tcells a).length = k * 4 + j by omega]
      exact this
theorem RdT.tks {ok : Nat → Prop} {w : World} {v : Value} {l : List Tok} (h : RdT ok w v l) (k : Nat) (hk : k < l.length) : ∃ g cap, v = .slice (some ⟨g, 0, none⟩) l.length cap ∧ l.length ≤ cap ∧ ok g ∧ cap ≤ maxLen ∧
    w.cell? ⟨g, k * 4, none⟩ = some (.int .i64 ((tkAt l k).kind : Int)) ∧ w.cell? ⟨g, k * 4 + 1, none⟩ = some (.string ⟨(tkAt l k).text.toArray⟩) ∧ w.cell? ⟨g, k * 4 + 2, none⟩ = some (.int .i64 ((tkAt l k).n : Int)) ∧ w.cell? ⟨g, k * 4 + 3, none⟩ = some (.int .i64 ((tkAt l k).pos : Int)) := by
  rcases h with ⟨rfl, _⟩ | ⟨g, cap, cur, rfl, ho, hb, hc, hs, hm, ht⟩
  · simp at hk
  · have key : ∀ j, j < 4 → w.cell? ⟨g, k * 4 + j, none⟩ = (tcells (tkAt l k))[j]? := by
      intro j hj
      rw [← tvals_tk l k hk j hj, ← ht, List.getElem?_take, if_pos (by omega)]
      simp [World.cell?, hb]
    exact ⟨g, cap, rfl, hc, ho, hm, key 0 (by omega), key 1 (by omega), key 2 (by omega), key 3 (by omega)⟩
theorem RdT.lower {ok : Nat → Prop} {w w1 : World} {v : Value} {l : List Tok} (h : RdT ok w v l) (hb : Below w.heap.size w w1) : RdT ok w1 v l := by
  rcases h with h | ⟨g, cap, cur, rfl, ho, hbl, hc, hs, hm, ht⟩
  · exact .inl h
  · refine .inr ⟨g, cap, cur, rfl, ho, ?_, hc, hs, hm, ht⟩
    rw [hb.block g (by exact (Array.getElem?_eq_some_iff.1 hbl).1)]
    exact hbl
theorem allS_tk {l : List UInt8} {T : List Tok} (h : allS l = .ok T) : TkOk T ∧ T ≠ [] := by
  obtain ⟨hl, u, p, rfl, hp, hu, ht⟩ := allS_bnd h
  refine ⟨⟨⟨u, _, rfl, rfl⟩, fun t h => ?_, by simp; omega⟩, by simp⟩
  rcases List.mem_append.1 h with h | h
  · have := ht t h
    omega
  · obtain rfl := List.mem_singleton.1 h
    exact ⟨by simp, by simp, by simp, hp⟩
theorem lexErr (s : ByteArray) (hs : s.size ≤ 9223372036854775807) {p er : Nat} (hA : allS s.data.toList = .error (p, er)) (W : World) (hW : LexW W) :
    Calls Tryz.prog 19 #[.string s] W fun e w' => e = .returned (.tuple #[.slice none 0 0, .int .i64 (p : Int), .int .i64 (er : Int)]) ∧ Below W.heap.size W w' := by
  refine (lex_All s W hs hW).mono fun e w' h => ?_
  rw [hA] at h
  exact ⟨h.2, h.1⟩
theorem lexOk (s : ByteArray) (hs : s.size ≤ 9223372036854775807) {T : List Tok} (hA : allS s.data.toList = .ok T) (W : World) (hW : LexW W) :
    Calls Tryz.prog 19 #[.string s] W fun e w' => ∃ g, e = .returned (.tuple #[.slice (some ⟨g, 0, none⟩) T.length T.length, .int .i64 0, .int .i64 0]) ∧ Below W.heap.size W w' ∧ Hid (RdT (behind W) w' (.slice (some ⟨g, 0, none⟩) T.length T.length) T) := by
  refine (lex_All s W hs hW).mono fun e w' h => ?_
  rw [hA] at h
  obtain ⟨hb, g, n, h1, h2⟩ := h
  have hn := (RdT.clip h2).1
  subst hn
  exact ⟨g, h1, hb, Lib.hid h2⟩
theorem p_al0 (w : World) (X : Obj) : Below w.heap.size w (w.alloc X) := (Below.refl _ _).alloc (Nat.le_refl _) X
/-- the parser over All's tokens, in a struct of its own -/
theorem PSt.start {ok : Nat → Prop} {w : World} {gt : Nat} {T : List Tok} (h : RdT ok w (.slice (some ⟨gt, 0, none⟩) T.length T.length) T) (hT : TkOk T) (hne : T ≠ []) :
    PSt T gt T.length w.heap.size 0 0 (w.alloc (.cells #[.slice (some ⟨gt, 0, none⟩) T.length T.length, .int .i64 0] 87)) := by
  have hpos : 0 < T.length := List.length_pos_iff.2 hne
  have hgt : gt < w.heap.size := by
    obtain ⟨g', c', hv, _, _, _, h0, _⟩ := h.tks 0 hpos
    injection hv with e _ _
    injection e with e
    injection e with e
    subst e
    exact World.block_lt_of_cell? w _ h0
  have hb := p_al0 w (.cells #[.slice (some ⟨gt, 0, none⟩) T.length T.length, .int .i64 0] 87)
  refine ⟨by simpa using Box.new w #[.slice (some ⟨gt, 0, none⟩) T.length T.length, .int .i64 0] 87, fun i hi => ?_, by omega, hpos, Nat.le_refl _, by have := hT.len; omega, by omega⟩
  obtain ⟨g', c', hv, _, _, _, h0, h1, h2, h3⟩ := (h.lower hb).tks i hi
  injection hv with e _ _
  injection e with e
  injection e with e
  subst e
  exact ⟨h0, h1, h2, h3⟩
end Go.Proofs.YtlnhhffhmeekoaaGreatDoor
namespace Go.Proofs.YtlnhhffhmeekoaaGreatDoor
open Go.RowKit Go.IntWalk
section
variable {w : World}
/-- what a reading gives back: the tree, in memory of its own; the place; the error -/
def ReadE (r : N × Nat × Nat) (w : World) (e : Ending) (W' : World) : Prop :=
  ∃ lv, e = .returned (.tuple #[valO r.1 lv, .int .i64 (r.2.1 : Int), .int .i64 (r.2.2 : Int)]) ∧ Below w.heap.size w W' ∧ OwN (fun b => w.heap.size ≤ b) W' (cellsN r.1 lv) r.1
theorem zero_own (ok : Nat → Prop) (W : World) : OwN ok W (cellsN zeroN (.slice none 0 0)) zeroN :=
  OwN.leaf _ _ _ (by constructor <;> simp [N.kind]) (by constructor <;> simp [N.spot]) (by simp [N.text]) ⟨by constructor <;> simp [V.kind, V.zero, N.val], by constructor <;> simp [V.num, V.zero, N.val], by simp [V.str, V.zero, N.val], rfl, rfl⟩ rfl
/-- three boxes made -/
abbrev three (w : World) : World := ((w.alloc (.cells zNode 29)).alloc (.cells #[.int .i64 0] 3)).alloc (.cells #[.int .i64 0] 30)
theorem three_new (w : World) : Box w.heap.size zNode 29 (three w) ∧ Box (w.heap.size + 1) #[.int .i64 0] 3 (three w) ∧ Box (w.heap.size + 2) #[.int .i64 0] 30 (three w) ∧ Below w.heap.size w (three w) ∧ (three w).heap.size = w.heap.size + 3 := by
  have h1 := p_al w (.cells zNode 29)
  have h2 := p_al (w.alloc (.cells zNode 29)) (.cells #[.int .i64 0] 3)
  have h3 := p_al ((w.alloc (.cells zNode 29)).alloc (.cells #[.int .i64 0] 3)) (.cells #[.int .i64 0] 30)
  refine ⟨((Box.new w zNode 29).below h2).below h3, ?_, ?_, bthen (bthen h1 h2) h3, by simp⟩
  · have := (Box.new (w.alloc (.cells zNode 29)) #[.int .i64 0] 3).below h3
    simpa using this
  · have := Box.new ((w.alloc (.cells zNode 29)).alloc (.cells #[.int .i64 0] 3)) #[.int .i64 0] 30
    simpa using this
/-- behind the stores of a fault -/
def RdE (w : World) (p er : Nat) (s : ByteArray) (fv : Value) (e : Exit) (a : Act) (W : World) : Prop := e = .normal ∧ a = { tmps := #[.string s, fv, undef, undef, pPtr w.heap.size, pPtr (w.heap.size + 1), pPtr (w.heap.size + 1 + 1), .slice none 0 0, .tuple #[.slice none 0 0, .int .i64 (p : Int), .int .i64 (er : Int)], .string s, .tuple #[.slice none 0 0, .int .i64 (p : Int), .int .i64 (er : Int)], .slice none 0 0, .int .i64 (p : Int), .int .i64 (er : Int), .int .i64 (er : Int), .bool true, .agg #[.int .i64 0, .string ⟨#[]⟩, .int .i64 0, .int .i64 0, .string ⟨#[]⟩, .slice none 0 0, .slice none 0 0, .bool false, .slice none 0 0, .int .i64 0], .int .i64 (p : Int), .int .i64 (er : Int), undef, undef, undef, undef, undef, undef], defers := [] } ∧
  Box w.heap.size zNode 29 W ∧ Box (w.heap.size + 1) #[.int .i64 (p : Int)] 3 W ∧ Box (w.heap.size + 1 + 1) #[.int .i64 (er : Int)] 30 W ∧ Below w.heap.size w W
theorem own_off {b a : Nat} : b ≠ a → ¬ (a = b) := fun h e => h e.symm
set_option maxRecDepth 20000 in
set_option maxHeartbeats 2000000 in
/-- a fault of the lexer's -/
theorem p_read_err (s : ByteArray) (fv : Value) {p er : Nat} (her : er ≠ 0)
    (hA : ∀ W, Below w.heap.size w W → Calls Tryz.prog 19 #[.string s] W fun e w' => e = .returned (.tuple #[.slice none 0 0, .int .i64 (p : Int), .int .i64 (er : Int)]) ∧ Below W.heap.size W w') :
    Calls Tryz.prog 30 #[.string s, fv] w (ReadE (zeroN, p, er) w) := by
  have hnz : ((er : Int) != 0) = true := by simp; omega
  obtain ⟨b1, b2, b3, hb, hz⟩ := three_new w
  have HI := Lib.hid (hA _ hb)
  have H1 := Lib.hid b1
  have H2 := Lib.hid b2
  have H3 := Lib.hid b3
  have HB := Lib.hid hb
  clear b1 b2 b3 hb hA her
  go_enter_defers Tryz.func30, Tryz.ntmps30
  go_wp2_with fail
  refine HI.out.mono ?_
  rintro e w1 ⟨rfl, hb⟩
  have G1 := Lib.hid (H1.out.below hb)
  have G2 := Lib.hid (H2.out.below hb)
  have G3 := Lib.hid (show Box (w.heap.size + 1 + 1) _ _ w1 from H3.out.below hb)
  have GB := Lib.hid (bthen HB.out hb)
  have hz1 := hb.size
  rw [hz] at hz1
  have Hz1 := Lib.hid hz1
  clear hb hz H1 H2 H3 HB HI hz1
  have x0 : w1.cell? ⟨w.heap.size + 1, 0, none⟩ = some (.int .i64 0) := G2.out.cell 0 rfl
  have l0 := G2.out.melt 0
  have y0 : w1.cell? ⟨w.heap.size + 1 + 1, 0, none⟩ = some (.int .i64 0) := G3.out.cell 0 rfl
  have m0 := G3.out.melt 0
  go_upto_region 3 with fail
  have hz1 := Hz1.out
  have hs1 : Fr (fun b => w.heap.size + 1 = b) w1 (w1.setCell ⟨w.heap.size + 1, 0, none⟩ (.int .i64 (p : Int))) := (Fr.refl _ _).set1 _ 0 rfl _
  have hs2 : Fr (fun b => w.heap.size + 1 + 1 = b) (w1.setCell ⟨w.heap.size + 1, 0, none⟩ (.int .i64 (p : Int))) ((w1.setCell ⟨w.heap.size + 1, 0, none⟩ (.int .i64 (p : Int))).setCell ⟨w.heap.size + 1 + 1, 0, none⟩ (.int .i64 (er : Int))) := (Fr.refl _ _).set1 _ 0 rfl _
  have K1 := Lib.hid ((G1.out.fr hs1 (by omega)).fr hs2 (by omega))
  have K2 := Lib.hid (show Box (w.heap.size + 1) #[.int .i64 (p : Int)] _ _ from (G2.out.set 0 (.int .i64 (p : Int))).fr hs2 (by omega))
  have K3 := Lib.hid (show Box (w.heap.size + 1 + 1) #[.int .i64 (er : Int)] _ _ from (G3.out.fr hs1 (by omega)).set 0 (.int .i64 (er : Int)))
  have KB := Lib.hid (Fr.to_below (((Fr.of_below (ok := fun b => w.heap.size ≤ b) GB.out).past hs1 (fun b hb h => by omega)).past hs2 (fun b hb h => by omega)) (fun b hb h => by omega))
  clear hs1 hs2 x0 l0 y0 m0 G1 G2 G3 GB
  generalize ((w1.setCell ⟨w.heap.size + 1, 0, none⟩ (.int .i64 (p : Int))).setCell ⟨w.heap.size + 1 + 1, 0, none⟩ (.int .i64 (er : Int))) = w2 at *
  refine wp_mono (Q := RdE w p er s fv) ?reg ?rest
  case reg =>
    refine wp_region_held_drew (S := fun W => W.cell? ⟨w.heap.size + 1, 0, none⟩ = some (.int .i64 (p : Int)) ∧ W.cell? ⟨w.heap.size + 1 + 1, 0, none⟩ = some (.int .i64 (er : Int))) (by kernel_rfl) ⟨(show Box (w.heap.size + 1) _ _ w2.drew from K2.out).cell 0 rfl, (show Box (w.heap.size + 1 + 1) _ _ w2.drew from K3.out).cell 0 rfl⟩ (fun hHeld => ?_)
    have G1 := Lib.hid (show Box w.heap.size _ _ w2.drew from K1.out)
    have G2 := Lib.hid (show Box (w.heap.size + 1) _ _ w2.drew from K2.out)
    have G3 := Lib.hid (show Box (w.heap.size + 1 + 1) _ _ w2.drew from K3.out)
    have GB := Lib.hid KB.out.drew
    clear K1 K2 K3 KB
    generalize w2.drew = w3 at *
    refine wpAnyH_take (i := 0) (v := ?vz0) rfl (by kernel_rfl) (by kernel_rfl) (by kernel_rfl) (fun _ _ _ h => by cases h.1) (Or.inl ⟨by rfl, ?yz0⟩) (by assumption) ?rz0
    case yz0 => (intro W hSw; obtain ⟨a0, a1⟩ := hSw; go_simp; try with_reducible rfl)
    try simp only [Act.put, List.getElem_toArray, List.getElem_cons_zero, List.getElem_cons_succ, List.setIfInBounds_toArray, List.set_cons_zero, List.set_cons_succ]
    refine wpAnyH_take (i := 1) (v := ?vz1) rfl (by kernel_rfl) (by kernel_rfl) (by kernel_rfl) (fun _ _ _ h => by cases h.1) (Or.inl ⟨by rfl, ?yz1⟩) (by assumption) ?rz1
    case yz1 => (intro W hSw; obtain ⟨a0, a1⟩ := hSw; go_simp; try with_reducible rfl)
    try simp only [Act.put, List.getElem_toArray, List.getElem_cons_zero, List.getElem_cons_succ, List.setIfInBounds_toArray, List.set_cons_zero, List.set_cons_succ]
    refine wpAnyH_take (i := 2) (v := ?vz2) rfl (by kernel_rfl) (by kernel_rfl) (by kernel_rfl) (fun _ _ _ h => by cases h.1) (Or.inl ⟨by rfl, ?yz2⟩) (by assumption) ?rz2
    case yz2 => (intro W hSw; obtain ⟨a0, a1⟩ := hSw; go_simp; try with_reducible rfl)
    try simp only [Act.put, List.getElem_toArray, List.getElem_cons_zero, List.getElem_cons_succ, List.setIfInBounds_toArray, List.set_cons_zero, List.set_cons_succ]
    refine wpAnyH_ready (rs := [3]) (by kernel_rfl) (by simp) ?_
    refine AllReadyH.cons rfl (fun K hK => ?_) AllReadyH.nil
    obtain ⟨r0, r1, r2, r3, r4, r5, r6, r7, r8, r9⟩ := ten_cells G1.out
    obtain ⟨m0, m1, m2, m3, m4, m5, m6, m7, m8, m9⟩ := ten_melt G1.out
    go_simp
    have hfr := ten_res w.heap.size (.int .i64 0) (.string ⟨#[]⟩) (.int .i64 0) (.int .i64 0) (.string ⟨#[]⟩) (.slice none 0 0) (.slice none 0 0) (.bool false) (.slice none 0 0) (.int .i64 0) w3
    have hbx := ten_set G1.out (.int .i64 0) (.string ⟨#[]⟩) (.int .i64 0) (.int .i64 0) (.string ⟨#[]⟩) (.slice none 0 0) (.slice none 0 0) (.bool false) (.slice none 0 0) (.int .i64 0)
    have K1 := Lib.hid hbx
    have K2 := Lib.hid (G2.out.fr hfr (by omega))
    have K3 := Lib.hid (G3.out.fr hfr (by omega))
    have KB := Lib.hid (Fr.to_below ((Fr.of_below (ok := fun b => w.heap.size ≤ b) GB.out).past hfr (fun b hb h => by omega)) (fun b hb h => by omega))
    refine hK.out _ _ (by exact ⟨K2.out.cell 0 rfl, K3.out.cell 0 rfl⟩) (fun hHeld => ?_)
    clear hK K hfr hbx r0 r1 r2 r3 r4 r5 r6 r7 r8 r9 m0 m1 m2 m3 m4 m5 m6 m7 m8 m9 G1 G2 G3 GB
    try simp only [Act.put, List.getElem_toArray, List.getElem_cons_zero, List.getElem_cons_succ, List.setIfInBounds_toArray, List.set_cons_zero, List.set_cons_succ]
    generalize (((((((((((w3.setCell ⟨w.heap.size, 0, none⟩ (.int .i64 0)).setCell ⟨w.heap.size, 1, none⟩ (.string ⟨#[]⟩)).setCell ⟨w.heap.size, 2, none⟩ (.int .i64 0)).setCell ⟨w.heap.size, 3, none⟩ (.int .i64 0)).setCell ⟨w.heap.size, 4, none⟩ (.string ⟨#[]⟩)).setCell ⟨w.heap.size, 5, none⟩ (.slice none 0 0)).setCell ⟨w.heap.size, 6, none⟩ (.slice none 0 0)).setCell ⟨w.heap.size, 7, none⟩ (.bool false)).setCell ⟨w.heap.size, 8, none⟩ (.slice none 0 0)).setCell ⟨w.heap.size, 9, none⟩ (.int .i64 0))) = w4 at *
    refine wpAnyH_ready (rs := [4]) (by kernel_rfl) (by simp) ?_
    refine AllReadyH.cons rfl (fun K hK => ?_) AllReadyH.nil
    have p0 : w4.cell? ⟨w.heap.size + 1, 0, none⟩ = some (.int .i64 (p : Int)) := K2.out.cell 0 rfl
    have p1 := K2.out.melt 0
    go_simp
    have hset : Fr (fun b => w.heap.size + 1 = b) w4 (w4.setCell ⟨w.heap.size + 1, 0, none⟩ (.int .i64 (p : Int))) := (Fr.refl _ _).set1 _ 0 rfl _
    have L2 := Lib.hid (K2.out.set 0 (.int .i64 (p : Int)))
    have L1 := Lib.hid (K1.out.fr hset (by omega))
    have L3 := Lib.hid (K3.out.fr hset (by omega))
    have LB := Lib.hid (Fr.to_below ((Fr.of_below (ok := fun b => w.heap.size ≤ b) KB.out).past hset (fun b hb h => by omega)) (fun b hb h => by omega))
    refine hK.out _ _ (by exact ⟨L2.out.cell 0 rfl, L3.out.cell 0 rfl⟩) (fun hHeld => ?_)
    clear hK K hset p0 p1 K1 K2 K3 KB
    try simp only [Act.put, List.getElem_toArray, List.getElem_cons_zero, List.getElem_cons_succ, List.setIfInBounds_toArray, List.set_cons_zero, List.set_cons_succ]
    generalize (w4.setCell ⟨w.heap.size + 1, 0, none⟩ (.int .i64 (p : Int))) = w5 at *
    refine wpAnyH_ready (rs := [5]) (by kernel_rfl) (by simp) ?_
    refine AllReadyH.cons rfl (fun K hK => ?_) AllReadyH.nil
    have p0 : w5.cell? ⟨w.heap.size + 1 + 1, 0, none⟩ = some (.int .i64 (er : Int)) := L3.out.cell 0 rfl
    have p1 := L3.out.melt 0
    go_simp
    have hset : Fr (fun b => w.heap.size + 1 + 1 = b) w5 (w5.setCell ⟨w.heap.size + 1 + 1, 0, none⟩ (.int .i64 (er : Int))) := (Fr.refl _ _).set1 _ 0 rfl _
    have M3 := Lib.hid (L3.out.set 0 (.int .i64 (er : Int)))
    have M1 := Lib.hid (L1.out.fr hset (by omega))
    have M2 := Lib.hid (L2.out.fr hset (by omega))
    have MB := Lib.hid (Fr.to_below ((Fr.of_below (ok := fun b => w.heap.size ≤ b) LB.out).past hset (fun b hb h => by omega)) (fun b hb h => by omega))
    refine hK.out _ _ (by exact ⟨M2.out.cell 0 rfl, M3.out.cell 0 rfl⟩) (fun hHeld => ?_)
    clear hK K hset p0 p1
    try simp only [Act.put, List.getElem_toArray, List.getElem_cons_zero, List.getElem_cons_succ, List.setIfInBounds_toArray, List.set_cons_zero, List.set_cons_succ]
    refine wpAnyH_done (by kernel_rfl) ?_ _
    exact ⟨rfl, rfl, M1.out, M2.out, M3.out, MB.out⟩
  case rest =>
    rintro e a' w9 ⟨rfl, rfl, h1, h2, h3, hb⟩
    have HE := Lib.hid (show ReadE (zeroN, p, er) w (.returned (.tuple #[valO zeroN (.slice none 0 0), .int .i64 (p : Int), .int .i64 (er : Int)])) w9 from ⟨.slice none 0 0, rfl, hb, zero_own _ _⟩)
    obtain ⟨r0, r1, r2, r3, r4, r5, r6, r7, r8, r9⟩ := ten_cells h1
    have p0 : w9.cell? ⟨w.heap.size + 1, 0, none⟩ = some (.int .i64 (p : Int)) := h2.cell 0 rfl
    have q0 : w9.cell? ⟨w.heap.size + 1 + 1, 0, none⟩ = some (.int .i64 (er : Int)) := h3.cell 0 rfl
    clear h1 h2 h3 hb K1 K2 K3 KB hnz
    go_wp2_with fail
    exact ⟨.tuple #[valO zeroN (.slice none 0 0), .int .i64 (p : Int), .int .i64 (er : Int)], by simp [results, Tryz.results30, go_sem, r0, r1, r2, r3, r4, r5, r6, r7, r8, r9, p0, q0, N.kind, N.text, N.val, N.flag, N.kids, N.spot, V.zero, V.kind, V.num, V.str], HE.out⟩
/-- the parser's struct over All's tokens -/
abbrev pStr (gt n : Nat) : Obj := .cells #[.slice (some ⟨gt, 0, none⟩) n n, .int .i64 0] 87
set_option maxRecDepth 20000 in
set_option maxHeartbeats 2000000 in
/-- no fault of the lexer's -/
theorem p_read_ok (s : ByteArray) (F : FuncId) (hent : ∀ (a : Array Value) (w : World), (callFunc F a).run Tryz.prog w = .ok (.enter F a) w) {T : List Tok} {r : PR N}
    (hall : ∀ gt g W, PSt T gt T.length g 0 0 W → Calls Tryz.prog F #[pPtr g] W (EndN T gt T.length g 0 W r))
    (hA : ∀ W, Below w.heap.size w W → Calls Tryz.prog 19 #[.string s] W fun e w' => ∃ gt, e = .returned (.tuple #[.slice (some ⟨gt, 0, none⟩) T.length T.length, .int .i64 0, .int .i64 0]) ∧ Below W.heap.size W w' ∧ ∀ W2, Fr (fun b => b < W.heap.size) w' W2 → PSt T gt T.length W2.heap.size 0 0 (W2.alloc (pStr gt T.length))) :
    Calls Tryz.prog 30 #[.string s, .func (.func F) #[] #[]] w fun e W' => (∃ c p, r = .bad c p ∧ ReadE (zeroN, p, c) w e W') ∨ (∃ n ts, r = .ok n ts ∧ ReadE (n, 0, 0) w e W') := by
  obtain ⟨b1, b2, b3, hb, hz⟩ := three_new w
  have HI := Lib.hid (hA _ hb)
  have H1 := Lib.hid b1
  have H2 := Lib.hid b2
  have H3 := Lib.hid b3
  have HB := Lib.hid hb
  have HAll := Lib.hid hall
  clear b1 b2 b3 hb hA hall
  have hmf : ∀ (fn : Fn) (first cap : Array Value) (w : World), (Instr.makeFunc fn first cap).run Tryz.prog w = .ok (.func fn first cap) w := fun _ _ _ _ => rfl
  go_enter_defers Tryz.func30, Tryz.ntmps30
  go_wp2_with fail
  refine HI.out.mono ?_
  rintro e w1 ⟨gt, rfl, hb, hst⟩
  have HS := Lib.hid hst
  rw [hz] at HS
  have G1 := Lib.hid (H1.out.below hb)
  have G2 := Lib.hid (H2.out.below hb)
  have G3 := Lib.hid (show Box (w.heap.size + 1 + 1) _ _ w1 from H3.out.below hb)
  have GB := Lib.hid (bthen HB.out hb)
  have hz1 := hb.size
  rw [hz] at hz1
  have hs1 : Fr (fun b => w.heap.size + 1 = b) w1 (w1.setCell ⟨w.heap.size + 1, 0, none⟩ (.int .i64 0)) := (Fr.refl _ _).set1 _ 0 rfl _
  have hs2 : Fr (fun b => w.heap.size + 1 + 1 = b) (w1.setCell ⟨w.heap.size + 1, 0, none⟩ (.int .i64 0)) ((w1.setCell ⟨w.heap.size + 1, 0, none⟩ (.int .i64 0)).setCell ⟨w.heap.size + 1 + 1, 0, none⟩ (.int .i64 0)) := (Fr.refl _ _).set1 _ 0 rfl _
  have hs := (hs1.mono (ok' := fun b => b < w.heap.size + 3) (fun b _ h => by omega)).past hs2 (fun b _ h => by omega)
  have hal := p_al ((w1.setCell ⟨w.heap.size + 1, 0, none⟩ (.int .i64 0)).setCell ⟨w.heap.size + 1 + 1, 0, none⟩ (.int .i64 0)) (.cells #[.slice (some ⟨gt, 0, none⟩) T.length T.length, .int .i64 0] 87)
  have K1 := Lib.hid (((G1.out.fr hs1 (by omega)).fr hs2 (by omega)).below hal)
  have K2 := Lib.hid ((show Box (w.heap.size + 1) #[.int .i64 0] _ _ from (G2.out.set 0 (.int .i64 0)).fr hs2 (by omega)).below hal)
  have K3 := Lib.hid ((show Box (w.heap.size + 1 + 1) #[.int .i64 0] _ _ from (G3.out.fr hs1 (by omega)).set 0 (.int .i64 0)).below hal)
  have KB := Lib.hid (((((Fr.of_below (ok := fun b => w.heap.size ≤ b) GB.out).past hs1 (fun b hb h => by omega)).past hs2 (fun b hb h => by omega))).below hal)
  have HP := Lib.hid (show PSt T gt T.length (((w1.setCell ⟨w.heap.size + 1, 0, none⟩ (.int .i64 0)).setCell ⟨w.heap.size + 1 + 1, 0, none⟩ (.int .i64 0)).heap.size) 0 0 (((w1.setCell ⟨w.heap.size + 1, 0, none⟩ (.int .i64 0)).setCell ⟨w.heap.size + 1 + 1, 0, none⟩ (.int .i64 0)).alloc (.cells #[.slice (some ⟨gt, 0, none⟩) T.length T.length, .int .i64 0] 87)) from HS.out _ hs)
  have hz2 : ((w1.setCell ⟨w.heap.size + 1, 0, none⟩ (.int .i64 0)).setCell ⟨w.heap.size + 1 + 1, 0, none⟩ (.int .i64 0)).heap.size = w1.heap.size := by simp [World.setCell]
  have hz3 : (((w1.setCell ⟨w.heap.size + 1, 0, none⟩ (.int .i64 0)).setCell ⟨w.heap.size + 1 + 1, 0, none⟩ (.int .i64 0)).alloc (.cells #[.slice (some ⟨gt, 0, none⟩) T.length T.length, .int .i64 0] 87)).heap.size = w1.heap.size + 1 := by simp [World.setCell]
  have Hz1 := Lib.hid hz1
  have Hz2 := Lib.hid hz2
  have Hz3 := Lib.hid hz3
  have x0 : w1.cell? ⟨w.heap.size + 1, 0, none⟩ = some (.int .i64 0) := G2.out.cell 0 rfl
  have l0 := G2.out.melt 0
  have y0 : w1.cell? ⟨w.heap.size + 1 + 1, 0, none⟩ = some (.int .i64 0) := G3.out.cell 0 rfl
  have m0 := G3.out.melt 0
  clear hb hst HS hs1 hs2 hs hal hz H1 H2 H3 HB HI G1 G2 G3 GB hz1 hz2 hz3
  rw [Hz2.out] at HP
  go_wp2_with fail
  generalize (((w1.setCell ⟨w.heap.size + 1, 0, none⟩ (.int .i64 0)).setCell ⟨w.heap.size + 1 + 1, 0, none⟩ (.int .i64 0)).alloc (.cells #[.slice (some ⟨gt, 0, none⟩) T.length T.length, .int .i64 0] 87)) = w3 at *
  have hz1 := Hz1.out
  have hz3 := Hz3.out
  clear x0 l0 y0 m0 hmf Hz2
  refine (HAll.out gt w1.heap.size _ HP.out).mono ?_
  rintro e w4 (⟨c, p, hr, rfl, hF⟩ | ⟨n, lv, k', hr, rfl, hP, hF, hO⟩)
  · have M1 := Lib.hid (K1.out.fr hF (by omega))
    have M2 := Lib.hid (K2.out.fr hF (by omega))
    have M3 := Lib.hid (K3.out.fr hF (by omega))
    have MB := Lib.hid (KB.out.past hF (fun b hb h => by omega))
    have HR := Lib.hid hr
    clear hr hF K1 K2 K3 KB HP
    go_wp2_with fail
    refine leaves_cons (f := 62) (args := #[pPtr w.heap.size, pPtr (w.heap.size + 1), pPtr (w.heap.size + 1 + 1)]) (by simp) (by simp [go_sem]) ?_
    refine (rd_stop M1.out M2.out M3.out (by omega) (by omega) (by omega)).mono ?_
    rintro e u' w5 ⟨rfl, rfl, h1, h2, h3, h4⟩
    have HE := Lib.hid (show ReadE (zeroN, p, c) w (.returned (.tuple #[valO zeroN (.slice none 0 0), .int .i64 (p : Int), .int .i64 (c : Int)])) w5 from ⟨.slice none 0 0, rfl, Fr.to_below (MB.out.past h4 (fun b hb h => by omega)) (fun b hb h => by omega), zero_own _ _⟩)
    obtain ⟨r0, r1, r2, r3, r4, r5, r6, r7, r8, r9⟩ := ten_cells h1
    have p0 : w5.cell? ⟨w.heap.size + 1, 0, none⟩ = some (.int .i64 (p : Int)) := h2.cell 0 rfl
    have q0 : w5.cell? ⟨w.heap.size + 1 + 1, 0, none⟩ = some (.int .i64 (c : Int)) := h3.cell 0 rfl
    exact ⟨.tuple #[valO zeroN (.slice none 0 0), .int .i64 (p : Int), .int .i64 (c : Int)], by simp [results, Tryz.results30, go_sem, r0, r1, r2, r3, r4, r5, r6, r7, r8, r9, p0, q0, N.kind, N.text, N.val, N.flag, N.kids, N.spot, V.zero, V.kind, V.num, V.str], .inl ⟨c, p, HR.out, HE.out⟩⟩
  · obtain ⟨A, ca, rfl⟩ := hO.lvs
    have M1 := Lib.hid (K1.out.fr hF (by omega))
    have M2 := Lib.hid (K2.out.fr hF (by omega))
    have M3 := Lib.hid (K3.out.fr hF (by omega))
    have MB := KB.out.past hF (fun b hb h => by omega)
    have hf1 := ten_res w.heap.size (.int .i64 n.kind) (.string ⟨n.text.toArray⟩) (.int .i64 n.val.kind) (.int .i64 n.val.num) (.string ⟨n.val.str.toArray⟩) (.slice none 0 0) (.slice none 0 0) (.bool n.flag) (.slice A n.kids.length ca) (.int .i64 n.spot) w4
    have hx1 := ten_set M1.out (.int .i64 n.kind) (.string ⟨n.text.toArray⟩) (.int .i64 n.val.kind) (.int .i64 n.val.num) (.string ⟨n.val.str.toArray⟩) (.slice none 0 0) (.slice none 0 0) (.bool n.flag) (.slice A n.kids.length ca) (.int .i64 n.spot)
    have hf2 : Fr (fun b => w.heap.size + 1 = b) ((((((((((w4.setCell ⟨w.heap.size, 0, none⟩ (.int .i64 n.kind)).setCell ⟨w.heap.size, 1, none⟩ (.string ⟨n.text.toArray⟩)).setCell ⟨w.heap.size, 2, none⟩ (.int .i64 n.val.kind)).setCell ⟨w.heap.size, 3, none⟩ (.int .i64 n.val.num)).setCell ⟨w.heap.size, 4, none⟩ (.string ⟨n.val.str.toArray⟩)).setCell ⟨w.heap.size, 5, none⟩ (.slice none 0 0)).setCell ⟨w.heap.size, 6, none⟩ (.slice none 0 0)).setCell ⟨w.heap.size, 7, none⟩ (.bool n.flag)).setCell ⟨w.heap.size, 8, none⟩ (.slice A n.kids.length ca)).setCell ⟨w.heap.size, 9, none⟩ (.int .i64 n.spot)) (((((((((((w4.setCell ⟨w.heap.size, 0, none⟩ (.int .i64 n.kind)).setCell ⟨w.heap.size, 1, none⟩ (.string ⟨n.text.toArray⟩)).setCell ⟨w.heap.size, 2, none⟩ (.int .i64 n.val.kind)).setCell ⟨w.heap.size, 3, none⟩ (.int .i64 n.val.num)).setCell ⟨w.heap.size, 4, none⟩ (.string ⟨n.val.str.toArray⟩)).setCell ⟨w.heap.size, 5, none⟩ (.slice none 0 0)).setCell ⟨w.heap.size, 6, none⟩ (.slice none 0 0)).setCell ⟨w.heap.size, 7, none⟩ (.bool n.flag)).setCell ⟨w.heap.size, 8, none⟩ (.slice A n.kids.length ca)).setCell ⟨w.heap.size, 9, none⟩ (.int .i64 n.spot)).setCell ⟨w.heap.size + 1, 0, none⟩ (.int .i64 0)) := (Fr.refl _ _).set1 _ 0 rfl _
    have hf3 : Fr (fun b => w.heap.size + 1 + 1 = b) (((((((((((w4.setCell ⟨w.heap.size, 0, none⟩ (.int .i64 n.kind)).setCell ⟨w.heap.size, 1, none⟩ (.string ⟨n.text.toArray⟩)).setCell ⟨w.heap.size, 2, none⟩ (.int .i64 n.val.kind)).setCell ⟨w.heap.size, 3, none⟩ (.int .i64 n.val.num)).setCell ⟨w.heap.size, 4, none⟩ (.string ⟨n.val.str.toArray⟩)).setCell ⟨w.heap.size, 5, none⟩ (.slice none 0 0)).setCell ⟨w.heap.size, 6, none⟩ (.slice none 0 0)).setCell ⟨w.heap.size, 7, none⟩ (.bool n.flag)).setCell ⟨w.heap.size, 8, none⟩ (.slice A n.kids.length ca)).setCell ⟨w.heap.size, 9, none⟩ (.int .i64 n.spot)).setCell ⟨w.heap.size + 1, 0, none⟩ (.int .i64 0)) ((((((((((((w4.setCell ⟨w.heap.size, 0, none⟩ (.int .i64 n.kind)).setCell ⟨w.heap.size, 1, none⟩ (.string ⟨n.text.toArray⟩)).setCell ⟨w.heap.size, 2, none⟩ (.int .i64 n.val.kind)).setCell ⟨w.heap.size, 3, none⟩ (.int .i64 n.val.num)).setCell ⟨w.heap.size, 4, none⟩ (.string ⟨n.val.str.toArray⟩)).setCell ⟨w.heap.size, 5, none⟩ (.slice none 0 0)).setCell ⟨w.heap.size, 6, none⟩ (.slice none 0 0)).setCell ⟨w.heap.size, 7, none⟩ (.bool n.flag)).setCell ⟨w.heap.size, 8, none⟩ (.slice A n.kids.length ca)).setCell ⟨w.heap.size, 9, none⟩ (.int .i64 n.spot)).setCell ⟨w.heap.size + 1, 0, none⟩ (.int .i64 0)).setCell ⟨w.heap.size + 1 + 1, 0, none⟩ (.int .i64 0)) := (Fr.refl _ _).set1 _ 0 rfl _
    have N1 := Lib.hid ((hx1.fr hf2 (by omega)).fr hf3 (by omega))
    have N2 := Lib.hid (show Box (w.heap.size + 1) #[.int .i64 0] _ _ from ((M2.out.fr hf1 (by omega)).set 0 (.int .i64 0)).fr hf3 (by omega))
    have N3 := Lib.hid (show Box (w.heap.size + 1 + 1) #[.int .i64 0] _ _ from ((M3.out.fr hf1 (by omega)).fr hf2 (by omega)).set 0 (.int .i64 0))
    have NO := Lib.hid (((hO.fr hf1 (fun b _ h1 h2 => by omega)).fr hf2 (fun b _ h1 h2 => by omega)).fr hf3 (fun b _ h1 h2 => by omega))
    have NB := Lib.hid (Fr.to_below (((MB.past hf1 (fun b hb h => by omega)).past hf2 (fun b hb h => by omega)).past hf3 (fun b hb h => by omega)) (fun b hb h => by omega))
    have HR := Lib.hid hr
    obtain ⟨r0, r1, r2, r3, r4, r5, r6, r7, r8, r9⟩ := ten_cells M1.out
    obtain ⟨m0, m1, m2, m3, m4, m5, m6, m7, m8, m9⟩ := ten_melt M1.out
    have p0 : w4.cell? ⟨w.heap.size + 1, 0, none⟩ = some (.int .i64 0) := M2.out.cell 0 rfl
    have p1 := M2.out.melt 0
    have q0 : w4.cell? ⟨w.heap.size + 1 + 1, 0, none⟩ = some (.int .i64 0) := M3.out.cell 0 rfl
    have q1 := M3.out.melt 0
    clear hr hP hF hO MB hf1 hf2 hf3 hx1 K1 K2 K3 KB HP M1 M2 M3 hz1 hz3
    go_wp2_with fail
    generalize ((((((((((((w4.setCell ⟨w.heap.size, 0, none⟩ (.int .i64 n.kind)).setCell ⟨w.heap.size, 1, none⟩ (.string ⟨n.text.toArray⟩)).setCell ⟨w.heap.size, 2, none⟩ (.int .i64 n.val.kind)).setCell ⟨w.heap.size, 3, none⟩ (.int .i64 n.val.num)).setCell ⟨w.heap.size, 4, none⟩ (.string ⟨n.val.str.toArray⟩)).setCell ⟨w.heap.size, 5, none⟩ (.slice none 0 0)).setCell ⟨w.heap.size, 6, none⟩ (.slice none 0 0)).setCell ⟨w.heap.size, 7, none⟩ (.bool n.flag)).setCell ⟨w.heap.size, 8, none⟩ (.slice A n.kids.length ca)).setCell ⟨w.heap.size, 9, none⟩ (.int .i64 n.spot)).setCell ⟨w.heap.size + 1, 0, none⟩ (.int .i64 0)).setCell ⟨w.heap.size + 1 + 1, 0, none⟩ (.int .i64 0)) = w6 at *
    clear r0 r1 r2 r3 r4 r5 r6 r7 r8 r9 m0 m1 m2 m3 m4 m5 m6 m7 m8 m9 p0 p1 q0 q1
    refine leaves_cons (f := 62) (args := #[pPtr w.heap.size, pPtr (w.heap.size + 1), pPtr (w.heap.size + 1 + 1)]) (by simp) (by simp [go_sem]) ?_
    refine (rd_idle _ _ _).mono ?_
    rintro e u' w7 ⟨rfl, rfl, rfl⟩
    have hz1 := Hz1.out
    have hz3 := Hz3.out
    have HE := Lib.hid (show ReadE (n, 0, 0) w (.returned (.tuple #[valO n (.slice A n.kids.length ca), .int .i64 0, .int .i64 0])) w7 from ⟨.slice A n.kids.length ca, rfl, NB.out, NO.out.imp (fun b _ h => by omega)⟩)
    obtain ⟨r0, r1, r2, r3, r4, r5, r6, r7, r8, r9⟩ := ten_cells N1.out
    have p0 : w7.cell? ⟨w.heap.size + 1, 0, none⟩ = some (.int .i64 0) := N2.out.cell 0 rfl
    have q0 : w7.cell? ⟨w.heap.size + 1 + 1, 0, none⟩ = some (.int .i64 0) := N3.out.cell 0 rfl
    exact ⟨.tuple #[valO n (.slice A n.kids.length ca), .int .i64 0, .int .i64 0], by simp [results, Tryz.results30, go_sem, r0, r1, r2, r3, r4, r5, r6, r7, r8, r9, p0, q0], .inr ⟨n, _, HR.out, HE.out⟩⟩

end
end Go.Proofs.YtlnhhffhmeekoaaGreatDoor
namespace Go.Proofs.YtlnhhffhmeekoaaGreatDoor
open Go.RowKit Go.IntWalk
section
variable {T : List Tok} {gt cap g k o f : Nat} {w : World}
set_option maxRecDepth 20000 in
set_option maxHeartbeats 1000000 in
theorem k_top (hT : TkOk T) (hf : f ≤ 200000) (h : PSt T gt cap g k 0 w) (hne : pExprTop f (T.drop k) ≠ .out) :
    Calls Tryz.prog 31 #[pPtr g] w (EndN T gt cap g 0 w (pExprTop f (T.drop k))) := by
  have hlg := h.box.lt
  have hlt := h.ltt
  generalize hR : pExprTop f (T.drop k) = R at *
  unfold pExprTop at hR
  have hin : pBin f 1 0 (T.drop k) ≠ .out := fun e => hne (by rw [← hR, e]; rfl)
  have hal := p_al w (.cells zNode 29)
  have HE0 := Lib.hid (Box.new w zNode 29)
  have HI := Lib.hid (x_expr hT hf (h.below hal) hin)
  have HS := Lib.hid hal
  have HR := Lib.hid hR
  clear h hne hR hin hal
  go_enter Tryz.func31, Tryz.ntmps31
  go_wp2_with fail
  refine HI.out.mono ?_
  rintro e w1 (⟨c, p, hr, rfl, hF⟩ | ⟨n, lv, k', hr, rfl, hP, hF, hO⟩)
  · have HQ := Lib.hid (show R = .bad c p by rw [← HR.out, PR.bind_bad hr])
    have HF := Lib.hid ((Fr.of_below (ok := fun b => g = b) HS.out).trans hF)
    clear hr hF
    go_wp2_with fail
    exact ⟨rfl, .inl ⟨c, p, HQ.out, rfl, HF.out⟩⟩
  · obtain ⟨A, ca, rfl⟩ := hO.lvs
    have HQ := Lib.hid (show (if (hdT (T.drop k')).kind = 0 then PR.ok n (T.drop k') else .bad 170 (hdT (T.drop k')).pos) = R by rw [← HR.out, PR.bind_ok hr])
    rw [hd_tkAt T k' hP.lt] at HQ
    have hal := p_al w1 (.cells #[.int .i64 n.kind, .string ⟨n.text.toArray⟩, .int .i64 n.val.kind, .int .i64 n.val.num, .string ⟨n.val.str.toArray⟩, .slice none 0 0, .slice none 0 0, .bool n.flag, .slice A n.kids.length ca, .int .i64 n.spot] 29)
    have hbx := Box.new w1 #[.int .i64 n.kind, .string ⟨n.text.toArray⟩, .int .i64 n.val.kind, .int .i64 n.val.num, .string ⟨n.val.str.toArray⟩, .slice none 0 0, .slice none 0 0, .bool n.flag, .slice A n.kids.length ca, .int .i64 n.spot] 29
    have hz1 := hF.size
    have hz0 := HE0.out.lt
    have HP2 := Lib.hid (hP.below hal)
    have HF2 := Lib.hid (((Fr.of_below (ok := fun b => g = b) HS.out).trans hF).below hal)
    have HE2 := Lib.hid ((HE0.out.fr hF (by omega)).below hal)
    have HN2 := Lib.hid hbx
    have HO2 := Lib.hid (hO.below hal)
    have Hz1 := Lib.hid hz1
    clear hr hP hF hO hal hbx hz1 hz0 HE0 HI HS
    go_wp2_with fail
    generalize (w1.alloc (.cells #[.int .i64 n.kind, .string ⟨n.text.toArray⟩, .int .i64 n.val.kind, .int .i64 n.val.num, .string ⟨n.val.str.toArray⟩, .slice none 0 0, .slice none 0 0, .bool n.flag, .slice A n.kids.length ca, .int .i64 n.spot] 29)) = w2 at *
    refine (p_peek HP2.out).mono ?_
    have hf0 := tok_f0 (tkAt T k')
    generalize hXX : tkAt T k' = X at *
    rintro e w3 ⟨rfl, hb⟩
    have HP3 := Lib.hid (HP2.out.below hb)
    have HF3 := Lib.hid (HF2.out.below hb)
    have HE3 := Lib.hid (HE2.out.below hb)
    have HN3 := Lib.hid (HN2.out.below hb)
    have HO3 := Lib.hid (HO2.out.below hb)
    have HXX := Lib.hid hXX
    have hz0 := HE2.out.lt
    clear hb HP2 HF2 HE2 HN2 HO2 hXX
    cases h0 : ((X.kind : Int) != 0) with
    | true =>
      have HQ2 := Lib.hid (show R = .bad 170 (tkAt T k').pos by rw [← HQ.out, if_neg (by simp at h0; omega), HXX.out])
      go_wp2_with fail
      refine (p_fail HP3.out 170 170 rfl).mono ?_
      rintro e w4 ⟨rfl, hb⟩
      have HF4 := Lib.hid (HF3.out.below hb)
      clear hb
      go_wp2_with fail
      exact ⟨rfl, .inl ⟨_, _, HQ2.out, rfl, HF4.out⟩⟩
    | false =>
      have HQ2 := Lib.hid (show R = .ok n (T.drop k') by rw [← HQ.out, if_pos (by simp at h0; omega)])
      have HE := Lib.hid (EndN.ret hlg hlt HQ2.out HP3.out HF3.out (HO3.out.imp (fun b _ h => show w.heap.size + 1 ≤ b by have := Hz1.out; simp at h this; omega)) (show w.heap.size ≤ w.heap.size by omega) (by omega))
      obtain ⟨r0, r1, r2, r3, r4, r5, r6, r7, r8, r9⟩ := ten_cells HE3.out
      obtain ⟨m0, m1, m2, m3, m4, m5, m6, m7, m8, m9⟩ := ten_melt HE3.out
      obtain ⟨t0, t1, t2, t3, t4, t5, t6, t7, t8, t9⟩ := ten_cells HN3.out
      go_wp2_with fail
      refine bodyPost_ret (v := valO n (.slice A n.kids.length ca)) (by simp [results, Tryz.results31, go_sem, r0, r1, r2, r3, r4, r5, r6, r7, r8, r9]) rfl ?_
      exact HE.out
/-- All, as read asks of it -/
theorem all_start (s : ByteArray) (hs : s.size ≤ 9223372036854775807) (hW : LexW w) {T : List Tok} (hA : allS s.data.toList = .ok T) (W : World) (hb : Below w.heap.size w W) :
    Calls Tryz.prog 19 #[.string s] W fun e w' => ∃ gt, e = .returned (.tuple #[.slice (some ⟨gt, 0, none⟩) T.length T.length, .int .i64 0, .int .i64 0]) ∧ Below W.heap.size W w' ∧ ∀ W2, Fr (fun b => b < W.heap.size) w' W2 → PSt T gt T.length W2.heap.size 0 0 (W2.alloc (pStr gt T.length)) := by
  obtain ⟨hT, hne⟩ := allS_tk hA
  refine (lexOk s hs hA W (hW.below hb)).mono ?_
  rintro e w' ⟨gt, rfl, hb', hr⟩
  refine ⟨gt, rfl, hb', fun W2 hF => PSt.start (ok := behind W) ?_ hT hne⟩
  rcases hr.out with h | ⟨g, cap, cur, hv, ho, hbl, hc, hs, hm, ht⟩
  · exact .inl h
  · refine .inr ⟨g, cap, cur, hv, ho, ?_, hc, hs, hm, ht⟩
    rw [hF.block g (Array.getElem?_eq_some_iff.1 hbl).1 (by unfold behind at ho; omega)]
    exact hbl
theorem prog_ent (a : Array Value) (w : World) : (callFunc 39 a).run Tryz.prog w = .ok (.enter 39 a) w := by kernel_rfl
theorem top_ent (a : Array Value) (w : World) : (callFunc 31 a).run Tryz.prog w = .ok (.enter 31 a) w := by kernel_rfl
theorem read_P (s : ByteArray) (hs : s.size ≤ 9223372036854775807) (hW : LexW w) : Calls Tryz.prog 30 #[.string s, .func (.func 39) #[] #[]] w (ReadE (parseP s.data.toList) w) := by
  rcases hA : allS s.data.toList with ⟨p, er⟩ | T
  · have e : parseP s.data.toList = (zeroN, p, er) := by rw [parseP, readS, hA]
    rw [e]
    exact p_read_err s _ (allS_ne0 hA) fun W hb => lexErr s hs hA W (hW.below hb)
  · obtain ⟨hT, hne⟩ := allS_tk hA
    have hl := hT.len
    refine (p_read_ok s _ prog_ent (T := T) (r := pFns (16 * T.length + 16) [] T) (fun gt g W hP => ?_) (all_start s hs hW hA)).mono ?_
    · have := k_prog hT (f := 16 * T.length + 16) (by omega) (by omega) hP
      rwa [List.drop_zero] at this
    · rintro e W' (⟨c, p, hr, h⟩ | ⟨n, ts, hr, h⟩)
      · have e1 : parseP s.data.toList = (zeroN, p, c) := by rw [parseP, readS, hA]; simp only [hr]
        rw [e1]
        exact h
      · have e1 : parseP s.data.toList = (n, 0, 0) := by rw [parseP, readS, hA]; simp only [hr]
        rw [e1]
        exact h
theorem read_E (s : ByteArray) (hs : s.size ≤ 9223372036854775807) (hW : LexW w) : Calls Tryz.prog 30 #[.string s, .func (.func 31) #[] #[]] w (ReadE (parseE s.data.toList) w) := by
  rcases hA : allS s.data.toList with ⟨p, er⟩ | T
  · have e : parseE s.data.toList = (zeroN, p, er) := by rw [parseE, readS, hA]
    rw [e]
    exact p_read_err s _ (allS_ne0 hA) fun W hb => lexErr s hs hA W (hW.below hb)
  · obtain ⟨hT, hne⟩ := allS_tk hA
    have hl := hT.len
    refine (p_read_ok s _ top_ent (T := T) (r := pExprTop (16 * T.length + 16) T) (fun gt g W hP => ?_) (all_start s hs hW hA)).mono ?_
    · have := k_top hT (f := 16 * T.length + 16) (by omega) hP (by rw [List.drop_zero]; exact (fine_top (by omega)).1)
      rwa [List.drop_zero] at this
    · rintro e W' (⟨c, p, hr, h⟩ | ⟨n, ts, hr, h⟩)
      · have e1 : parseE s.data.toList = (zeroN, p, c) := by rw [parseE, readS, hA]; simp only [hr]
        rw [e1]
        exact h
      · have e1 : parseE s.data.toList = (n, 0, 0) := by rw [parseE, readS, hA]; simp only [hr]
        rw [e1]
        exact h
end
end Go.Proofs.YtlnhhffhmeekoaaGreatDoor
