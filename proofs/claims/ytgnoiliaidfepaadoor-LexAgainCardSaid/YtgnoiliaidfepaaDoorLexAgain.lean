/- The walk of LexAgain. -/
import Derived.Test.YtgnoiliaidfepaaDoorLexAgainLaw
import Derived.Test.YtgnoiliaidfepaaDoorLexWritten
import Derived.Test.YtgnoiliaidfepaaDoorLexAhead
import Derived.BigQuiet
set_option linter.unusedVariables false
set_option linter.unusedSimpArgs false
namespace Go.Proofs.YtgnoiliaidfepaaDoor
open Go.RowKit Go.IntWalk

/-! rows of whole numbers -/
def ivals (l : List Nat) : List Value := l.map fun (n : Nat) => .int .i64 (n : Int)
theorem Tryd.infoInt : (Tryd.prog.info? 3).map (fun i => (i.zero, i.size, i.bytes)) = some (some (.int .i64 0), 1, 8) := by kernel_rfl
def OwnI (ok : Nat → Prop) (w : World) (v : Value) (l : List Nat) : Prop := OwnR 3 1 ok w v l.length (ivals l)
theorem OwnI.nil (ok : Nat → Prop) (w : World) : OwnI ok w (.slice none 0 0) [] := OwnR.nil _ _ _ _
theorem add_lists (W : World) (x y : List UInt8) (h : x.length + y.length ≤ 9223372036854775807) : (Op.stringOp .add ⟨x.toArray⟩ ⟨y.toArray⟩).run Tryd.prog W = .ok (.string ⟨(x ++ y).toArray⟩) W := by
  rw [run_string_add_sum W _ _ (by simp [ByteArray.size]; omega), ByteArray.mk_append_mk]
theorem wpI_append {ops : Array Oper} {rest : List Oper} {o : Oper} {a : Act} {Q : Exit → Act → World → Prop} {W w0 : World} {ok : Nat → Prop} {l : List Nat} (v : Value) (n : Nat)
    (s x : Operand) (hgd : o.guard = none) (ho : o.op = .call { callee := .builtin .append, args := #[s, x], argTypes := #[46, 46] })
    (cells : Array Value) (hc : cells = #[.int .i64 (n : Int)]) (c : Nat) (hs : a.eval s = v) (hx : a.eval x = .slice (some ⟨W.heap.size, 0, none⟩) 1 c)
    (HO : OwnI ok W v l) (HF : Fr ok w0 W) (hl : l.length ≤ 1000000) (hnew : ∀ k, W.heap.size ≤ k → ok k)
    (h : ∀ v1 w1, OwnI ok w1 v1 (l ++ [n]) → Fr ok w0 w1 → wpList Tryd.prog ops Q rest (a.put o.dst v1) w1) :
    wpList Tryd.prog ops Q (o :: rest) a (W.alloc (.cells cells 3)) :=
  wpList_plain hgd fun K hK => by
    refine opR_append 46 1 [.int .i64 (n : Int)] Tryd.infoInt rfl (by omega) (by omega) Tryd.underlying46 s x ho cells hc c hs hx rfl (fun u hu => by simp at hu; subst hu; rfl) HO (by omega) hnew ?_
    intro v1 w1 h1 h2 h3
    refine hK _ _ (h v1 w1 ?_ (h3 ok w0 HF HO.blk))
    unfold OwnI
    rw [List.length_append]
    simpa [ivals] using h1
theorem OwnI.at {ok : Nat → Prop} {w : World} {v : Value} {l : List Nat} (h : OwnI ok w v l) (hl : l ≠ []) : ∃ g cap, v = .slice (some ⟨g, 0, none⟩) l.length cap ∧ ok g ∧ l.length ≤ cap ∧ ∀ i (h : i < l.length), w.cell? ⟨g, i, none⟩ = some (.int .i64 (l[i] : Int)) := by
  obtain ⟨g, cap, hv, hg, hc, hcell⟩ := OwnR.form h (List.length_pos_iff.2 hl)
  refine ⟨g, cap, hv, hg, hc, fun i hi => hcell i _ ?_⟩
  simp [ivals, List.getElem?_eq_getElem hi]

set_option maxRecDepth 20000 in
set_option maxHeartbeats 400000 in
theorem law_LexAgain (s : ByteArray) (w : World) (hs : s.size ≤ 9223372036854775807) (hW : Hid (LexW w)) :
    Calls Tryd.prog 8 #[.string s] w fun e w' => e = .returned (.bool true) ∧ Below w.heap.size w w' := by
  rcases hA : allS s.data.toList with ⟨p, er⟩ | toks
  · have hL1 := fun W hW => allErr s hs hA W hW
    have her : er ≠ 0 := allS_err_ne hA
    have hq2 : ((er : Int) != 0) = true := by simp; omega
    clear hA her
    go_enter Tryd.func8, Tryd.ntmps8
    go_wp2_with (first
      | (go_at_call 15; refine (hL1 _ hW.out).mono ?_; rintro e w1 ⟨rfl, hb1⟩)
      | (go_at_call 18; refine (law_shown _ (hW.out.below hb1)).mono ?_; rintro e w2 ⟨rfl, hb2⟩))
    go_ret
    exact ⟨rfl, bthen hb1 hb2⟩
  · have hL1 := fun W hW => allOk s hs hA W hW
    obtain ⟨hlen, hne⟩ := allS_len hA
    have Hbd := Lib.hid (all_bound hA)
    have HA := Lib.hid hA
    have hJ := joinL_len (fun i hi => (all_bound hA i hi).2.2)
    have HJ := Lib.hid hJ
    clear hA hJ
    have hn0 : 0 < toks.length := List.length_pos_iff.2 hne
    go_enter Tryd.func8, Tryd.ntmps8
    go_wp2_with (first
      | (go_at_call 15; refine (hL1 _ hW.out).mono ?_; rintro e w1 ⟨g, rfl, hb1, hr1⟩)
      | (go_at_call 18; refine (law_shown _ (hW.out.below hb1)).mono ?_; rintro e w2 ⟨rfl, hb2⟩; have HR := Lib.hid (hr1.out.below hb2); have HB := Lib.hid (bthen hb1 hb2); have HW2 := Lib.hid ((hW.out.below hb1).below hb2); clear hr1 hb1 hb2))
    go_loopw [7, 8, 9] (fun v7 v8 v9 wr => ∃ k : Nat, k ≤ toks.length ∧ v9 = .int .i64 k ∧ v7 = .string ⟨(joinS (toks.take k)).toArray⟩ ∧ OwnI (behind w2) wr v8 ((List.range k).map (plc toks)) ∧ Fr (behind w2) w2 wr) (fun _ _ i _ => toks.length - (intOf i).toNat)
    case atStart => exact ⟨0, by omega, rfl, rfl, OwnI.nil _ _, Fr.refl _ _⟩
    case round =>
      obtain ⟨k, hk, rfl, rfl, hO, hF⟩ := hrel
      have HO := Lib.hid hO
      have HF := Lib.hid hF
      clear hO hF
      by_cases hlt : k < toks.length
      · have hlA : (k : Int) < (toks.length : Int) := by omega
        have h00 : (0 : Int) ≤ (k : Int) := by omega
        have hbd := Hbd.out k hlt
        have hsn := take_snoc_tok toks k hlt
        have hJk := HJ.out k hk
        have hJs := joinS_len (toks.take k)
        have hcell : ∀ wx, Fr (behind w2) w2 wx → wx.cell? ⟨g, k * 4, none⟩ = some (.int .i64 ((tAt toks k).kind : Int)) ∧ wx.cell? ⟨g, k * 4 + 1, none⟩ = some (.string ⟨(tAt toks k).text.toArray⟩) ∧ wx.cell? ⟨g, k * 4 + 2, none⟩ = some (.int .i64 ((tAt toks k).n : Int)) ∧ wx.cell? ⟨g, k * 4 + 3, none⟩ = some (.int .i64 ((tAt toks k).pos : Int)) :=
          fun wx hf => (HR.out.fr hf (fun b hb _ hk => by simp [behind] at hk; omega)).at k hlt
        have Hcell := Lib.hid hcell
        have hpl : (List.range (k + 1)).map (plc toks) = (List.range k).map (plc toks) ++ [plc toks k] := by simp [List.range_succ]
        have Hpl := Lib.hid hpl
        generalize hX : tAt toks k = X at *
        obtain ⟨kd, t, n, p⟩ := X
        have hw := fun W => law_written ⟨kd, t, n, p⟩ W hbd.1 (by have := hbd.2.1; simp at this ⊢; omega)
        have hwl := hbd.2.2
        have Hw := Lib.hid hw
        clear hcell hpl hw hX hbd
        have d3 : decide ((n : Int) < 0) = false := by simp
        by_cases h0 : 0 < k
        · have hplc := plc_pos h0 hk
          have hjs := joinS_snoc (ts := toks.take k) (fun e => by have := congrArg List.length e; rw [List.length_take, List.length_nil] at this; omega) ⟨kd, t, n, p⟩
          rw [← hsn] at hjs
          have Hjs := Lib.hid hjs
          have Hplc := Lib.hid hplc
          generalize joinS (toks.take k) = S at *
          generalize writtenS ⟨kd, t, n, p⟩ = T at *
          have hadd1 : ∀ W, (Op.stringOp .add ⟨S.toArray⟩ ⟨#[32]⟩).run Tryd.prog W = .ok (.string ⟨(S ++ [32]).toArray⟩) W := fun W => add_lists W S [32] (by simp; omega)
          have hadd2 : ∀ W, (Op.stringOp .add ⟨(S ++ [32]).toArray⟩ ⟨T.toArray⟩).run Tryd.prog W = .ok (.string ⟨(S ++ [32] ++ T).toArray⟩) W := fun W => add_lists W (S ++ [32]) T (by simp; omega)
          clear hsn hJs hJk hjs hplc
          have hplN : Hid ((List.range (k + 1)).map (plc toks) = (List.range k).map (plc toks) ++ [S.length + 1]) := by
            show _ = _
            rw [Hpl.out, Hplc.out]
          by_cases h3 : kd = 3
          · have g3 : ((kd : Int) == 3) = true := by simp; omega
            clear h3
            go_wp2_with (first
              | (at_builtin; refine wpI_append _ (S.length + 1) (.tmp 43) (.tmp 46) rfl rfl _ ?hcc 1 rfl rfl HO.out HF.out (by simp; omega) (fun j h => Nat.le_trans HF.out.size h) ?_; (case hcc => simp); intro v1 w5 hO1 hF1; obtain ⟨a0, a1, a2, a3⟩ := Hcell.out w5 hF1; clear HO HF)
              | (go_at_call 20; refine (Hw.out _).mono ?_; rintro e w6 ⟨rfl, hb6⟩))
            exact ⟨⟨k + 1, by omega, by go_num, by rw [Hjs.out], by rw [hplN.out]; exact OwnR.below hO1 hb6, hF1.below hb6⟩, by simp [intOf]; omega⟩
          · have g3 : ((kd : Int) == 3) = false := by simp; omega
            clear h3
            go_wp2_with (first
              | (at_builtin; refine wpI_append _ (S.length + 1) (.tmp 43) (.tmp 46) rfl rfl _ ?hcc 1 rfl rfl HO.out HF.out (by simp; omega) (fun j h => Nat.le_trans HF.out.size h) ?_; (case hcc => simp); intro v1 w5 hO1 hF1; obtain ⟨a0, a1, a2, a3⟩ := Hcell.out w5 hF1; clear HO HF)
              | (go_at_call 20; refine (Hw.out _).mono ?_; rintro e w6 ⟨rfl, hb6⟩))
            exact ⟨⟨k + 1, by omega, by go_num, by rw [Hjs.out], by rw [hplN.out]; exact OwnR.below hO1 hb6, hF1.below hb6⟩, by simp [intOf]; omega⟩
        · obtain rfl : k = 0 := by omega
          have hjs : joinS (toks.take (0 + 1)) = writtenS ⟨kd, t, n, p⟩ := by rw [hsn]; exact joinS_one _
          have Hjs := Lib.hid hjs
          generalize writtenS ⟨kd, t, n, p⟩ = T at *
          have hS0 : joinS (toks.take 0) = [] := rfl
          rw [hS0]
          have hadd : ∀ W, (Op.stringOp .add ⟨#[]⟩ ⟨T.toArray⟩).run Tryd.prog W = .ok (.string ⟨T.toArray⟩) W := fun W => add_lists W [] T (by simp; omega)
          have hplN : Hid ((List.range (0 + 1)).map (plc toks) = (List.range 0).map (plc toks) ++ [0]) := by
            show _ = _
            rw [Hpl.out]
            rfl
          clear hsn hJs hJk hjs hS0 h0 hlA h00
          have hlA : (0 : Int) < (toks.length : Int) := by omega
          by_cases h3 : kd = 3
          · have g3 : ((kd : Int) == 3) = true := by simp; omega
            clear h3
            go_wp2_with (first
            | (at_builtin; refine wpI_append _ 0 (.tmp 43) (.tmp 46) rfl rfl _ ?hcc 1 rfl rfl HO.out HF.out (by simp) (fun j h => Nat.le_trans HF.out.size h) ?_; (case hcc => simp); intro v1 w5 hO1 hF1; obtain ⟨a0, a1, a2, a3⟩ := Hcell.out w5 hF1; clear HO HF)
            | (go_at_call 20; refine (Hw.out _).mono ?_; rintro e w6 ⟨rfl, hb6⟩))
            exact ⟨⟨1, by omega, by go_num, by rw [show (1 : Nat) = 0 + 1 from rfl, Hjs.out], by rw [show (1 : Nat) = 0 + 1 from rfl, hplN.out]; exact OwnR.below hO1 hb6, hF1.below hb6⟩, by simp [intOf]; omega⟩
          · have g3 : ((kd : Int) == 3) = false := by simp; omega
            clear h3
            go_wp2_with (first
            | (at_builtin; refine wpI_append _ 0 (.tmp 43) (.tmp 46) rfl rfl _ ?hcc 1 rfl rfl HO.out HF.out (by simp) (fun j h => Nat.le_trans HF.out.size h) ?_; (case hcc => simp); intro v1 w5 hO1 hF1; obtain ⟨a0, a1, a2, a3⟩ := Hcell.out w5 hF1; clear HO HF)
            | (go_at_call 20; refine (Hw.out _).mono ?_; rintro e w6 ⟨rfl, hb6⟩))
            exact ⟨⟨1, by omega, by go_num, by rw [show (1 : Nat) = 0 + 1 from rfl, Hjs.out], by rw [show (1 : Nat) = 0 + 1 from rfl, hplN.out]; exact OwnR.below hO1 hb6, hF1.below hb6⟩, by simp [intOf]; omega⟩
      · obtain rfl : k = toks.length := by omega
        have htk : toks.take toks.length = toks := List.take_length
        rw [htk] at *
        have hJl := HJ.out toks.length (by omega)
        rw [htk] at hJl
        have hJs := joinS_len toks
        have hAg := fun h => allS_again HA.out h
        have hJz : (⟨(joinS toks).toArray⟩ : ByteArray).size = (joinS toks).length := by simp [ByteArray.size]
        generalize joinS toks = J at *
        have HAg := Lib.hid hAg
        have HBr := Lib.hid (HF.out.behind HB.out (fun b hb h => by have := HB.out.size; simp [behind] at h; omega))
        have HWr := Lib.hid (hW.out.below HBr.out)
        have HRr := Lib.hid (HR.out.fr HF.out (fun b hb _ hk => by simp [behind] at hk; omega))
        clear hAg htk hlt hk hJl hJs
        by_cases h8 : 8192 < J.length
        · have h8' : (8192 : Int) < (J.length : Int) := by omega
          clear hJz
          go_wp2
          go_ret
          exact ⟨rfl, HBr.out⟩
        · have h8' : ¬ (8192 : Int) < (J.length : Int) := by omega
          have hL2 := fun W hW => allOk ⟨J.toArray⟩ (by omega) (HAg.out (by omega)) W hW
          simp only [again_len] at hL2
          have hnn : ((toks.length : Int) != (toks.length : Int)) = false := by simp
          have HL2 := Lib.hid hL2
          clear hL2 hJz
          go_wp2_with (go_at_call 15; refine (HL2.out _ HWr.out).mono ?_; rintro e w3 ⟨g2, rfl, hb3, hr3⟩; have HB3 := Lib.hid (bthen HBr.out hb3); have HR3 := Lib.hid (HRr.out.below hb3); have HO3 := Lib.hid (OwnR.below HO.out hb3); have HK3 := Lib.hid hr3.out; clear hb3 hr3)
          have hone : (List.range toks.length).map (plc toks) ≠ [] := by
            intro e
            have h5 : 0 < ((List.range toks.length).map (plc toks)).length := by rw [List.length_map, List.length_range]; exact hn0
            rw [e] at h5
            simp at h5
          obtain ⟨gp, cp, hvp, _, hcp, hp⟩ := OwnI.at (l := (List.range toks.length).map (plc toks)) HO3.out hone
          simp only [List.length_map, List.length_range] at hvp hcp hp
          subst hvp
          have Hp := Lib.hid hp
          clear hp hone HO3
          go_loopw [13] (fun i wi => ∃ k : Nat, k ≤ toks.length ∧ i = .int .i64 k ∧ ∃ m, wi = w3.drewN m) (fun i _ => toks.length - (intOf i).toNat)
          case atStart => exact ⟨0, Nat.zero_le _, rfl, 0, rfl⟩
          case round =>
            obtain ⟨k, hk, rfl, nd, rfl⟩ := hrel
            by_cases hlt : k < toks.length
            · have hlA : (k : Int) < (toks.length : Int) := by omega
              have h00 : (0 : Int) ≤ (k : Int) := by omega
              obtain ⟨a0, a1, a2, _⟩ := HR3.out.at k hlt
              obtain ⟨b0, b1, b2, b3⟩ := HK3.out.at k (by rw [again_len]; exact hlt)
              have c3 := Hp.out k hlt
              simp only [List.getElem_map, List.getElem_range] at c3
              rw [again_at hlt] at b0 b1 b2 b3
              generalize tAt toks k = X at *
              generalize plc toks k = pl at *
              obtain ⟨kd, t, n, p⟩ := X
              simp only [] at a0 a1 a2 b0 b1 b2 b3
              have e1 : ((kd : Int) != (kd : Int)) = false := by simp
              have e2 : ((n : Int) != (n : Int)) = false := by simp
              have e3 : ((pl : Int) != (pl : Int)) = false := by simp
              clear HO HF HBr HWr HRr HAg HL2 hL1
              go_wp2
              go_quiet (fail)
              go_wp2
              exact ⟨⟨k + 1, by omega, by go_num, _, by first | rfl | exact World.drewN_drewN _ _ _⟩, by simp [intOf]; omega⟩
            · go_wp2
              go_ret
              exact ⟨rfl, bthen HB3.out (below_drewN _ _)⟩
end Go.Proofs.YtgnoiliaidfepaaDoor
