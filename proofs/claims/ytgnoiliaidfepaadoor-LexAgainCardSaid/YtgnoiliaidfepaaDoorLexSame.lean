/- Contracts of the law's own helpers: same, shown. -/
import Derived.Test.YtgnoiliaidfepaaDoorLexAll
import Derived.Laws.StructEq
set_option linter.unusedVariables false
set_option linter.unusedSimpArgs false
namespace Go.Proofs.YtgnoiliaidfepaaDoor
open Go.RowKit Go.IntWalk

def tAt (l : List Tok) (k : Nat) : Tok := l.getD k ⟨0, [], 0, 0⟩
theorem tvals_at (l : List Tok) : ∀ (k : Nat), k < l.length → ∀ j, j < 4 → (tvals l)[k * 4 + j]? = (tcells (tAt l k))[j]? := by
  induction l with
  | nil => intro k hk; simp at hk
  | cons a l ih =>
    intro k hk j hj
    have hlen : (tcells a).length = 4 := rfl
    cases k with
    | zero =>
      simp only [tvals, List.flatMap_cons, tAt, List.getD_cons_zero, Nat.zero_mul, Nat.zero_add]
      rw [List.getElem?_append_left (by omega)]
    | succ k =>
      have := ih k (by simpa using hk) j hj
      simp only [tvals, List.flatMap_cons, tAt, List.getD_cons_succ] at *
      rw [List.getElem?_append_right (by omega), show (k + 1) * 4 + j - (tcells a).length = k * 4 + j by omega]
      exact this
theorem RdT.cells {ok : Nat → Prop} {w : World} {v : Value} {l : List Tok} (h : RdT ok w v l) (k : Nat) (hk : k < l.length) : ∃ g cap, v = .slice (some ⟨g, 0, none⟩) l.length cap ∧ l.length ≤ cap ∧ ok g ∧ cap ≤ maxLen ∧
    w.cell? ⟨g, k * 4, none⟩ = some (.int .i64 ((tAt l k).kind : Int)) ∧ w.cell? ⟨g, k * 4 + 1, none⟩ = some (.string ⟨(tAt l k).text.toArray⟩) ∧ w.cell? ⟨g, k * 4 + 2, none⟩ = some (.int .i64 ((tAt l k).n : Int)) ∧ w.cell? ⟨g, k * 4 + 3, none⟩ = some (.int .i64 ((tAt l k).pos : Int)) := by
  rcases h with ⟨rfl, _⟩ | ⟨g, cap, cur, rfl, ho, hb, hc, hs, hm, ht⟩
  · simp at hk
  · have key : ∀ j, j < 4 → w.cell? ⟨g, k * 4 + j, none⟩ = (tcells (tAt l k))[j]? := by
      intro j hj
      rw [← tvals_at l k hk j hj, ← ht, List.getElem?_take, if_pos (by omega)]
      simp [World.cell?, hb]
    exact ⟨g, cap, rfl, hc, ho, hm, key 0 (by omega), key 1 (by omega), key 2 (by omega), key 3 (by omega)⟩
theorem RdT.form {ok : Nat → Prop} {w : World} {v : Value} {l : List Tok} (h : RdT ok w v l) : ∃ A cap, v = .slice A l.length cap ∧ l.length ≤ cap ∧ cap ≤ maxLen := by
  rcases h with ⟨rfl, rfl⟩ | ⟨g, cap, cur, rfl, ho, hb, hc, hs, hm, ht⟩
  · exact ⟨none, 0, rfl, by simp, by unfold maxLen; omega⟩
  · exact ⟨_, cap, rfl, hc, hm⟩
theorem RdT.below {ok : Nat → Prop} {w w1 : World} {v : Value} {l : List Tok} (h : RdT ok w v l) (hb : Below w.heap.size w w1) : RdT ok w1 v l := by
  rcases h with h | ⟨g, cap, cur, rfl, ho, hbl, hc, hs, hm, ht⟩
  · exact .inl h
  · refine .inr ⟨g, cap, cur, rfl, ho, ?_, hc, hs, hm, ht⟩
    rw [hb.block g (by exact (Array.getElem?_eq_some_iff.1 hbl).1)]
    exact hbl

abbrev tokA (X : Tok) : Value := .agg #[.int .i64 (X.kind : Int), .string ⟨X.text.toArray⟩, .int .i64 (X.n : Int), .int .i64 (X.pos : Int)]
def tokEq (X Y : Tok) : Bool := decide (X = Y)
theorem tok_equal (X Y : Tok) (W : World) : (Op.equalIn 10000 41 (tokA X) (tokA Y)).run Tryd.prog W = .ok (tokEq X Y) W := by
  rw [show (10000 : Nat) = 9999 + 1 from rfl, run_equalIn_agg _ _ _ _ _ (by kernel_rfl) (by kernel_rfl)]
  simp only [Program.fieldsOf, Tryd.underlying41]
  simp [Op.eqFields, go_sem]
  cases X with | mk a b c d =>
  cases Y with | mk a' b' c' d' =>
  simp only [tokEq, Tok.mk.injEq]
  by_cases h1 : a = a' <;> by_cases h2 : b = b' <;> by_cases h3 : c = c' <;> by_cases h4 : d = d' <;> simp [h1, h2, h3, h4] <;> omega
theorem tok_neq (X Y : Tok) (W : World) : (binOp .neq 41 (tokA X) (tokA Y)).run Tryd.prog W = .ok (.bool (!tokEq X Y)) W := by
  rw [run_neq_struct, tok_equal]; rfl
theorem tok_eql (X Y : Tok) (W : World) : (binOp .eql 41 (tokA X) (tokA Y)).run Tryd.prog W = .ok (.bool (tokEq X Y)) W := by
  rw [run_eql_struct, tok_equal]; rfl
theorem tok_guard : Tryd.prog.eqGuardType Tryd.prog.depth 41 = false := by kernel_rfl
def sameB (xs ys : List Tok) : Bool := decide (xs = ys)
set_option maxRecDepth 20000 in
set_option maxHeartbeats 400000 in
theorem law_sameQ (v1 v2 : Value) (xs ys : List Tok) (ok1 ok2 : Nat → Prop) (w : World) (h1 : Hid (RdT ok1 w v1 xs)) (h2 : Hid (RdT ok2 w v2 ys)) (hl : xs.length ≤ 1000000) (hl2 : ys.length ≤ 1000000) :
    Calls Tryd.prog 17 #[v1, v2] w fun e w' => e = .returned (.bool (sameB xs ys)) ∧ ∃ m, w' = w.drewN m := by
  obtain ⟨A, c, rfl, hc1, hm1⟩ := h1.out.form
  obtain ⟨B, d, rfl, hc2, hm2⟩ := h2.out.form
  by_cases hlen : xs.length = ys.length
  · rw [← hlen] at h2 hc2 ⊢
    have hne : ((xs.length : Int) != (xs.length : Int)) = false := by simp
    have Hlen := Lib.hid hlen
    clear hlen hl2
    go_enter Tryd.func17, Tryd.ntmps17
    go_wp2
    go_loopw [5] (fun i wr => ∃ k : Nat, k ≤ xs.length ∧ i = .int .i64 k ∧ (∀ j, j < k → tAt xs j = tAt ys j) ∧ ∃ m, wr = w.drewN m) (fun i _ => xs.length - (intOf i).toNat)
    case atStart => exact ⟨0, Nat.zero_le _, rfl, fun j hj => by omega, 0, rfl⟩
    case round =>
      obtain ⟨k, hk, rfl, hall, m0, rfl⟩ := hrel
      have Hall := Lib.hid hall
      have Hb : Hid (Below w.heap.size w (w.drewN m0)) := Lib.hid (below_drewN _ _)
      clear hall
      by_cases hlt : k < xs.length
      · obtain ⟨g, _, hv, _, _, _, a0, a1, a2, a3⟩ := h1.out.cells k hlt
        obtain ⟨g', _, hv', _, _, _, b0, b1, b2, b3⟩ := h2.out.cells k (by have := Hlen.out; omega)
        injection hv with e1 e2 e3
        injection hv' with e1' e2' e3'
        subst e1 e1' e3 e3'
        clear e2 e2'
        obtain ⟨X, hX⟩ : ∃ X, tAt xs k = X := ⟨_, rfl⟩
        obtain ⟨Y, hY⟩ : ∃ Y, tAt ys k = Y := ⟨_, rfl⟩
        rw [hX] at a0 a1 a2 a3
        rw [hY] at b0 b1 b2 b3
        have HX := Lib.hid hX
        have HY := Lib.hid hY
        clear hX hY
        have hbA : (k : Int) < (xs.length : Int) := by omega
        have h00 : (0 : Int) ≤ (k : Int) := by omega
        have hneq := tok_neq X Y
        have hgu := tok_guard
        go_wp2
        go_quiet (fail)
        all_goals go_wp2
        · have h : (!tokEq X Y) = true := by assumption
          go_ret
          refine ⟨ret_bool ?_, _, World.drewN_drewN _ _ _⟩
          symm
          rw [sameB, decide_eq_false_iff_not]
          rintro rfl
          have e := HX.out.symm.trans HY.out
          simp [tokEq, e] at h
        · have h : (!tokEq X Y) = false := by assumption
          have e : X = Y := by simpa [tokEq] using h
          go_roundw
          case rel => exact ⟨k + 1, by omega, by go_num, fun j hj => by
            by_cases hjk : j = k
            · rw [hjk, HX.out, HY.out, e]
            · exact Hall.out j (by omega), _, rfl⟩
          case measure => simp [intOf]; omega
      · go_wp2
        go_ret
        refine ⟨ret_bool ?_, m0, rfl⟩
        symm
        rw [sameB, decide_eq_true_iff]
        apply List.ext_getElem Hlen.out
        intro i hi hi'
        have := Hall.out i (by omega)
        simpa [tAt, List.getD_eq_getElem?_getD, List.getElem?_eq_getElem hi, List.getElem?_eq_getElem hi'] using this
  · have hne : ((xs.length : Int) != (ys.length : Int)) = true := by simp; omega
    go_enter Tryd.func17, Tryd.ntmps17
    go_wp2
    go_ret
    refine ⟨ret_bool ?_, 0, rfl⟩
    symm
    rw [sameB, decide_eq_false_iff_not]
    rintro rfl
    exact hlen rfl
theorem law_same (v1 v2 : Value) (xs ys : List Tok) (ok1 ok2 : Nat → Prop) (w : World) (h1 : Hid (RdT ok1 w v1 xs)) (h2 : Hid (RdT ok2 w v2 ys)) (hl : xs.length ≤ 1000000) (hl2 : ys.length ≤ 1000000) :
    Calls Tryd.prog 17 #[v1, v2] w fun e w' => e = .returned (.bool (sameB xs ys)) ∧ Below w.heap.size w w' :=
  (law_sameQ v1 v2 xs ys ok1 ok2 w h1 h2 hl hl2).mono fun e w' ⟨h, m, hm⟩ => ⟨h, by rw [hm]; exact below_drewN _ _⟩
end Go.Proofs.YtgnoiliaidfepaaDoor
