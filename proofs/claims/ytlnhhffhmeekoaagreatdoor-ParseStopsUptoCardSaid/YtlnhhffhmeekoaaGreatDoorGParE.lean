/- The parser's walks: the expressions' knot tied. A row of kids: its last cell is filled anew. A region that draws its order, with an operation that all that comes ahead must await: a condition on the world that need hold only till that one comes up. -/
import Derived.Test.YtlnhhffhmeekoaaGreatDoorCParseWalkL
import Derived.Test.YtlnhhffhmeekoaaGreatDoorGNode
import Derived.Deep.RegionHeld
set_option linter.unusedVariables false
set_option linter.unusedSimpArgs false
namespace Go.Proofs.YtlnhhffhmeekoaaGreatDoor
open Go.RowKit Go.IntWalk
section
variable {T : List Tok} {gt cap g k o f : Nat} {w : World}
theorem knotE (hT : TkOk T) : ∀ f, f ≤ 200000 → KnotE T gt cap g f := by
  intro f
  induction f using Nat.strongRecOn with
  | ind f ih =>
  intro hf
  have hih : ∀ j, j < f → KnotE T gt cap g j := fun j hj => ih j hj (by omega)
  cases f with
  | zero => exact ⟨fun m o k M w _ _ _ _ hne => absurd (by simp only [pBin]) hne, fun o k w _ hne => absurd (by simp only [pUn]) hne, fun o k w _ hne => absurd (by simp only [pPost]) hne, fun o k w _ hne => absurd (by simp only [pPrim]) hne⟩
  | succ f =>
  refine ⟨fun m o k M w hM h1 h2 h hne => ?_, fun o k w h hne => k_un hT (hih f (by omega)) h hne, fun o k w h hne => k_post hT (fun j hj => hih j (by omega)) h hne, fun o k w h hne => k_prim hT (by omega) (fun j hj => hih j (by omega)) h hne⟩
  subst hM
  by_cases h6 : m = 6
  · subst h6; exact k_bin_hi (hih f (by omega)) h hne
  · exact k_bin_lo hT (fun j hj => hih j (by omega)) m h1 (by omega) h hne
theorem x_expr (hT : TkOk T) (hf : f ≤ 200000) (h : PSt T gt cap g k o w) (hne : pBin f 1 o (T.drop k) ≠ .out) :
    Calls Tryz.prog 32 #[pPtr g] w (EndN T gt cap g o w (pBin f 1 o (T.drop k))) := k_expr (knotE hT f hf) h hne
/-- the contracts of the readers of statements -/
structure KnotS (T : List Tok) (gt cap g f : Nat) : Prop where
  block : ∀ (o k : Nat) (w : World), PSt T gt cap g k o w → pBlock f o (T.drop k) ≠ .out → Calls Tryz.prog 129 #[.pointer (some ⟨g, 0, none⟩)] w (EndN T gt cap g o w (pBlock f o (T.drop k)))
  stmt : ∀ (o k : Nat) (w : World), PSt T gt cap g k o w → pStmt f o (T.drop k) ≠ .out → Calls Tryz.prog 176 #[.pointer (some ⟨g, 0, none⟩)] w (EndN T gt cap g o w (pStmt f o (T.drop k)))
  choice : ∀ (o k : Nat) (w : World), PSt T gt cap g k o w → (tkAt T k).kind ≠ 0 → pIf f o (T.drop k) ≠ .out → Calls Tryz.prog 210 #[.pointer (some ⟨g, 0, none⟩)] w (EndN T gt cap g o w (pIf f o (T.drop k)))
set_option maxRecDepth 20000 in
set_option maxHeartbeats 1000000 in
theorem k_cond (hT : TkOk T) (hf : f ≤ 200000) (h : PSt T gt cap g k o w) (hne : pCond f o (T.drop k) ≠ .out) :
    Calls Tryz.prog 211 #[pPtr g] w (EndN T gt cap g o w (pCond f o (T.drop k))) := by
  have hlg := h.box.lt
  have hlt := h.ltt
  have hkl := h.lt
  have HB0 := Lib.hid (Box.new w zNode 29)
  have hb0 := p_al w (.cells zNode 29)
  have HS0 := Lib.hid hb0
  have H := Lib.hid (h.below hb0)
  have hHE := fun (k : Nat) (W : World) (hW : PSt T gt cap g k o W) (hn : pBin f 1 o (T.drop k) ≠ .out) => x_expr hT hf hW hn
  have HEx := Lib.hid hHE
  generalize hR : pCond f o (T.drop k) = R at *
  have HNe := Lib.hid hne
  have HRR := Lib.hid hR
  clear h hR hne hb0 hHE
  unfold pCond at HRR
  go_enter Tryz.func211, Tryz.ntmps211
  go_wp2_with fail
  cases hi : isT [40] (T.drop k) with
  | false =>
    have HQ := Lib.hid (show R = .bad 170 (tkAt T k).pos by rw [← HRR.out, mustT, if_neg (by rw [hi]; simp), hd_tkAt T k hkl]; rfl)
    refine (p_must_no H.out [40] hi).mono ?_
    rintro e w1 ⟨rfl, hb⟩
    have HF := Lib.hid (Fr.of_below (ok := fun b => g = b) (bthen HS0.out hb))
    clear hb
    go_wp2_with fail
    exact ⟨rfl, .inl ⟨_, _, HQ.out, rfl, HF.out⟩⟩
  | true =>
    have HQ := Lib.hid (show (pBin f 1 o (T.drop (k + 1))).bind (fun n r => (mustT [41] r).bind fun _ r => PR.ok n r) = R by rw [← HRR.out, mustT, if_pos hi, drop_tail]; rfl)
    refine (p_must_yes hT H.out [40] hi).mono ?_
    rintro e w1 ⟨rfl, hP, hF⟩
    have HP1 := Lib.hid hP
    have HF1 := Lib.hid ((Fr.of_below (ok := fun b => g = b) HS0.out).trans hF)
    have HB1 := Lib.hid (HB0.out.fr hF (by omega))
    have hin : pBin f 1 o (T.drop (k + 1)) ≠ .out := fun e => HNe.out (by rw [← HQ.out, e]; rfl)
    have HI := Lib.hid (HEx.out (k + 1) w1 hP hin)
    clear hP hF hin HB0 HS0 H HRR hi
    go_wp2_with fail
    refine HI.out.mono ?_
    rintro e w2 (⟨c, p, hr, rfl, hF⟩ | ⟨n, lv, k', hr, rfl, hP, hF, hO⟩)
    · have HF2 := Lib.hid (HF1.out.trans hF)
      have HQ2 := Lib.hid (show R = .bad c p by rw [← HQ.out, PR.bind_bad hr])
      clear hr hF
      go_wp2_with fail
      exact ⟨rfl, .inl ⟨c, p, HQ2.out, rfl, HF2.out⟩⟩
    · obtain ⟨A, ca, rfl⟩ := hO.lvs
      have HQ2 := Lib.hid (show (mustT [41] (T.drop k')).bind (fun _ r => PR.ok n r) = R by rw [← HQ.out, PR.bind_ok hr])
      have HF2 := Lib.hid (HF1.out.trans hF)
      have HB2 := Lib.hid (HB1.out.fr hF (by omega))
      have HP2 := Lib.hid hP
      have HO2 := Lib.hid hO
      have hs1 := HB1.out.lt
      have hs2 := hF.size
      have hal := p_al w2 (.cells #[.int .i64 n.kind, .string ⟨n.text.toArray⟩, .int .i64 n.val.kind, .int .i64 n.val.num, .string ⟨n.val.str.toArray⟩, .slice none 0 0, .slice none 0 0, .bool n.flag, .slice A n.kids.length ca, .int .i64 n.spot] 29)
      have HN3 := Lib.hid (Box.new w2 #[.int .i64 n.kind, .string ⟨n.text.toArray⟩, .int .i64 n.val.kind, .int .i64 n.val.num, .string ⟨n.val.str.toArray⟩, .slice none 0 0, .slice none 0 0, .bool n.flag, .slice A n.kids.length ca, .int .i64 n.spot] 29)
      have HP3 := Lib.hid (hP.below hal)
      have HF3 := Lib.hid (HF2.out.below hal)
      have HB3 := Lib.hid (HB2.out.below hal)
      have HO3 := Lib.hid (hO.below hal)
      clear hr hP hF hO hal HP2 HF2 HB2 HO2 HI HB1 HF1 HP1 HEx
      go_wp2_with fail
      have hz3 : w2.heap.size + 1 = (w2.alloc (.cells #[.int .i64 n.kind, .string ⟨n.text.toArray⟩, .int .i64 n.val.kind, .int .i64 n.val.num, .string ⟨n.val.str.toArray⟩, .slice none 0 0, .slice none 0 0, .bool n.flag, .slice A n.kids.length ca, .int .i64 n.spot] 29)).heap.size := by simp
      generalize (w2.alloc (.cells #[.int .i64 n.kind, .string ⟨n.text.toArray⟩, .int .i64 n.val.kind, .int .i64 n.val.num, .string ⟨n.val.str.toArray⟩, .slice none 0 0, .slice none 0 0, .bool n.flag, .slice A n.kids.length ca, .int .i64 n.spot] 29)) = w3 at *
      cases hm : isT [41] (T.drop k') with
      | false =>
        have HQ3 := Lib.hid (show R = .bad 170 (tkAt T k').pos by rw [← HQ2.out, mustT, if_neg (by rw [hm]; simp), hd_tkAt T k' HP3.out.lt]; rfl)
        refine (p_must_no HP3.out [41] hm).mono ?_
        rintro e w4 ⟨rfl, hb⟩
        have HF4 := Lib.hid (HF3.out.below hb)
        clear hb
        go_wp2_with fail
        exact ⟨rfl, .inl ⟨_, _, HQ3.out, rfl, HF4.out⟩⟩
      | true =>
        have HQ3 := Lib.hid (show R = .ok n (T.drop (k' + 1)) by rw [← HQ2.out, mustT, if_pos hm, drop_tail]; rfl)
        refine (p_must_yes hT HP3.out [41] hm).mono ?_
        rintro e w4 ⟨rfl, hP, hF⟩
        have HX := Lib.hid (HB3.out.fr hF (by omega))
        have HN4 := Lib.hid (HN3.out.fr hF (by omega))
        have HE := Lib.hid (EndN.ret hlg hlt HQ3.out hP (HF3.out.trans hF) ((HO3.out.fr hF (fun b _ h1 h2 => by omega)).imp (fun b _ h => show w.heap.size + 1 ≤ b by omega)) (show w.heap.size ≤ w.heap.size by omega) (by omega))
        clear hP hF
        obtain ⟨r0, r1, r2, r3, r4, r5, r6, r7, r8, r9⟩ := ten_cells HX.out
        obtain ⟨m0, m1, m2, m3, m4, m5, m6, m7, m8, m9⟩ := ten_melt HX.out
        obtain ⟨t0, t1, t2, t3, t4, t5, t6, t7, t8, t9⟩ := ten_cells HN4.out
        go_wp2_with fail
        refine bodyPost_ret (v := valO n (.slice A n.kids.length ca)) (by simp [results, Tryz.results211, go_sem, r0, r1, r2, r3, r4, r5, r6, r7, r8, r9]) rfl ?_
        exact HE.out
end
end Go.Proofs.YtlnhhffhmeekoaaGreatDoor
namespace Go.Proofs.YtlnhhffhmeekoaaGreatDoor
open Go.RowKit
theorem OwnR.set1 {e sz : Nat} {ok : Nat → Prop} {w : World} {v : Value} {n b : Nat} {cs : List Value} (h : OwnR e sz ok w v n cs) (hv : v.ownBlock = some b) (i : Nat) (u : Value) (hi : i < n * sz) : OwnR e sz ok (w.setCell ⟨b, i, none⟩ u) v n (cs.set i u) := by
  refine ⟨⟨by rw [List.length_set]; exact h.row.1, ?_⟩, h.blk⟩
  rcases h.row.2 with ⟨rfl, hn⟩ | ⟨g, cap, cur, rfl, h1, h2, h3, h4, h5, h6⟩
  · simp [Value.ownBlock] at hv
  · simp only [Value.ownBlock, Option.some.injEq] at hv
    subst hv
    refine .inr ⟨g, cap, cur.setIfInBounds i u, rfl, h1, ?_, h3, h4, by simpa using h5, ?_⟩
    · simp [World.setCell, Array.getElem?_modify, h2]
    · rw [Array.toList_setIfInBounds, ← h6, List.take_set]
theorem OwnR.fill {e : Nat} {ok : Nat → Prop} {w : World} {v : Value} {n b : Nat} {news : List Value} {o0 o1 o2 o3 o4 o5 o6 o7 o8 o9 : Value} (h : OwnR e 10 ok w v (n + 1) (news ++ [o0, o1, o2, o3, o4, o5, o6, o7, o8, o9])) (hl : news.length = n * 10) (hv : v.ownBlock = some b) (a0 a1 a2 a3 a4 a5 a6 a7 a8 a9 : Value) :
    OwnR e 10 ok ((((((((((w.setCell ⟨b, n * 10, none⟩ a0).setCell ⟨b, n * 10 + 1, none⟩ a1).setCell ⟨b, n * 10 + 2, none⟩ a2).setCell ⟨b, n * 10 + 3, none⟩ a3).setCell ⟨b, n * 10 + 4, none⟩ a4).setCell ⟨b, n * 10 + 5, none⟩ a5).setCell ⟨b, n * 10 + 6, none⟩ a6).setCell ⟨b, n * 10 + 7, none⟩ a7).setCell ⟨b, n * 10 + 8, none⟩ a8).setCell ⟨b, n * 10 + 9, none⟩ a9) v (n + 1) (news ++ [a0, a1, a2, a3, a4, a5, a6, a7, a8, a9]) := by
  have h1 := (((((((((h.set1 hv (n * 10) a0 (by omega)).set1 hv (n * 10 + 1) a1 (by omega)).set1 hv (n * 10 + 2) a2 (by omega)).set1 hv (n * 10 + 3) a3 (by omega)).set1 hv (n * 10 + 4) a4 (by omega)).set1 hv (n * 10 + 5) a5 (by omega)).set1 hv (n * 10 + 6) a6 (by omega)).set1 hv (n * 10 + 7) a7 (by omega)).set1 hv (n * 10 + 8) a8 (by omega)).set1 hv (n * 10 + 9) a9 (by omega)
  have hs : ∀ (l : List Value) (i : Nat) (u : Value), (news ++ l).set (n * 10 + i) u = news ++ l.set i u := fun l i u => by rw [List.set_append_right _ _ (by omega)]; congr 2; omega
  have hs0 : ∀ (l : List Value) (u : Value), (news ++ l).set (n * 10) u = news ++ l.set 0 u := fun l u => hs l 0 u
  simp only [hs0, hs, List.set_cons_zero, List.set_cons_succ] at h1
  exact h1
/-- a node stored over the row's last one; it lies in blocks of its own -/
theorem KidRow.fill {P ok : Nat → Prop} {w : World} {v : Value} {acc : List N} {z n : N} {lv : Value} {b : Nat} (h : KidRow P w v (acc ++ [z])) (hv : v.ownBlock = some b) {Q : Nat → Prop} (hO : OwN Q w (cellsN n lv) n) (hd : ∀ b, b < w.heap.size → P b → ¬ Q b) (h1 : ∀ b, b < w.heap.size → P b → ok b) (h2 : ∀ b, b < w.heap.size → Q b → ok b) :
    KidRow ok ((((((((((w.setCell ⟨b, acc.length * 10, none⟩ (.int .i64 n.kind)).setCell ⟨b, acc.length * 10 + 1, none⟩ (.string ⟨n.text.toArray⟩)).setCell ⟨b, acc.length * 10 + 2, none⟩ (.int .i64 n.val.kind)).setCell ⟨b, acc.length * 10 + 3, none⟩ (.int .i64 n.val.num)).setCell ⟨b, acc.length * 10 + 4, none⟩ (.string ⟨n.val.str.toArray⟩)).setCell ⟨b, acc.length * 10 + 5, none⟩ (.slice none 0 0)).setCell ⟨b, acc.length * 10 + 6, none⟩ (.slice none 0 0)).setCell ⟨b, acc.length * 10 + 7, none⟩ (.bool n.flag)).setCell ⟨b, acc.length * 10 + 8, none⟩ lv).setCell ⟨b, acc.length * 10 + 9, none⟩ (.int .i64 n.spot)) v (acc ++ [n]) := by
  obtain ⟨all, g1, g2⟩ := h
  obtain ⟨news, ok1, c, rfl, hk1, hA, hZ⟩ : ∃ news ok1 c, all = news ++ c ∧ (∀ b, ok1 b → P b ∧ some b ≠ v.ownBlock) ∧ OwNs ok1 w news acc ∧ c.length = 10 := by
    clear g1
    generalize hP : (fun b => P b ∧ some b ≠ v.ownBlock) = P' at g2
    have key : ∀ (acc : List N) (P' : Nat → Prop) (all : List Value), OwNs P' w all (acc ++ [z]) → ∃ news ok1 c, all = news ++ c ∧ (∀ b, ok1 b → P' b) ∧ OwNs ok1 w news acc ∧ c.length = 10 := by
      intro acc
      induction acc with
      | nil =>
        intro P' all h
        exact ⟨[], P', all, rfl, fun _ h => h, OwNs.nil _ _, by have := OwNs.len (ok := P') h; simpa using this⟩
      | cons x l ih =>
        intro P' all h
        rw [List.cons_append] at h
        unfold OwNs at h
        obtain ⟨a, b, c1, rest, rfl, h2, h3, h4, h5, h6⟩ := h
        obtain ⟨news, ok1, c, rfl, k1, k2, k3⟩ := ih b rest h6
        refine ⟨c1 ++ news, P', c, by simp, fun _ h => h, ?_, k3⟩
        unfold OwNs
        exact ⟨a, ok1, c1, news, rfl, h2, fun z hz => h3 z (k1 z hz), fun z hz hz' => h4 z hz (k1 z hz'), h5, k2⟩
    obtain ⟨news, ok1, c, e, k1, k2, k3⟩ := key acc P' all g2
    subst hP
    exact ⟨news, ok1, c, e, k1, k2, k3⟩
  have hln : news.length = acc.length * 10 := OwNs.len (ok := ok1) hA
  obtain ⟨o0, o1, o2, o3, o4, o5, o6, o7, o8, o9, rfl⟩ : ∃ o0 o1 o2 o3 o4 o5 o6 o7 o8 o9, c = [o0, o1, o2, o3, o4, o5, o6, o7, o8, o9] := by
    match c, hZ with
    | [o0, o1, o2, o3, o4, o5, o6, o7, o8, o9], _ => exact ⟨_, _, _, _, _, _, _, _, _, _, rfl⟩
  rw [List.length_append, List.length_singleton] at g1
  have hF := g1.fill hln hv (.int .i64 n.kind) (.string ⟨n.text.toArray⟩) (.int .i64 n.val.kind) (.int .i64 n.val.num) (.string ⟨n.val.str.toArray⟩) (.slice none 0 0) (.slice none 0 0) (.bool n.flag) lv (.int .i64 n.spot)
  have hPb := g1.blk b hv
  have hbl := g1.lt b hv
  have hf : Fr (fun k => b = k) w _ := ((((((((((Fr.refl _ w).set1 b (acc.length * 10) rfl (.int .i64 n.kind)).set1 b (acc.length * 10 + 1) rfl (.string ⟨n.text.toArray⟩)).set1 b (acc.length * 10 + 2) rfl (.int .i64 n.val.kind)).set1 b (acc.length * 10 + 3) rfl (.int .i64 n.val.num)).set1 b (acc.length * 10 + 4) rfl (.string ⟨n.val.str.toArray⟩)).set1 b (acc.length * 10 + 5) rfl (.slice none 0 0)).set1 b (acc.length * 10 + 6) rfl (.slice none 0 0)).set1 b (acc.length * 10 + 7) rfl (.bool n.flag)).set1 b (acc.length * 10 + 8) rfl lv).set1 b (acc.length * 10 + 9) rfl (.int .i64 n.spot)
  have hA' := (hA.lt).fr hf (fun k _ h1 h2 => by subst h2; exact (hk1 _ h1.1).2 hv.symm)
  have hO' := (hO.lt).fr hf (fun k hk h1 h2 => by subst h2; exact hd _ hk hPb h1.1)
  refine ⟨news ++ cellsN n lv, ?_, (OwNs.snoc hA' hO' fun k h1 h2 => hd k h1.2 (hk1 k h1.1).1 h2.1).imp fun k _ hk => ?_⟩
  · rw [List.length_append, List.length_singleton]
    exact ⟨hF.row, fun k hk => h1 k (g1.lt k hk) (g1.blk k hk)⟩
  · rcases hk with hk | hk
    · exact ⟨h1 k hk.2 (hk1 k hk.1).1, (hk1 k hk.1).2⟩
    · exact ⟨h2 k hk.2 hk.1, fun e => by rw [hv] at e; injection e with e; subst e; exact hd _ hk.2 hPb hk.1⟩
end Go.Proofs.YtlnhhffhmeekoaaGreatDoor
namespace Go.Proofs.YtlnhhffhmeekoaaGreatDoor
open Go Go.RowKit
section
variable {P : Program} {ops : Array Oper} {Q : Exit → Act → World → Prop} {md : Region.Mode} {S : World → Prop} {p : Nat}
/-- whatever order is picked; till p has come up S holds behind each -/
def wpAnyP (P : Program) (md : Region.Mode) (ops : Array Oper) (Q : Exit → Act → World → Prop) (S : World → Prop) (p : Nat) : Nat → Array Bool → Act → World → Prop
  | 0, listed, a, w => Region.ready md ops listed = [] ∧ Q .normal a w
  | fuel + 1, listed, a, w => (Region.ready md ops listed = [] → Q .normal a w) ∧
    ∀ i ∈ Region.ready md ops listed, wpOp P ops Q i (fun a' w' => (listed.getD p false = true ∨ i = p ∨ S w') ∧ wpAnyP P md ops Q S p fuel (listed.setIfInBounds i true) a' w') a w
theorem wpAny_of_pivot : ∀ (fuel : Nat) (listed : Array Bool) (a : Act) (w : World), wpAnyP P md ops Q S p fuel listed a w → wpAny P md ops Q fuel listed a w
  | 0, _, _, _, h => h
  | fuel + 1, _, _, _, h => ⟨h.1, fun i hi => wpOp_mono (fun a' w' h' => wpAny_of_pivot fuel _ a' w' h'.2) (h.2 i hi)⟩
/-- p waits for i -/
def Awaits (md : Region.Mode) (ops : Array Oper) (p i : Nat) : Bool := match ops[p]? with
  | some o => o.after.any fun e => Region.binds md e && e.on == i
  | none => false
theorem wpAnyP_first {i : Nat} {oi : Oper} {v : Value} (hi : ops[i]? = some oi) (hsel : ∀ (j : Nat) (o : Oper) cs b, ops[j]? = some o → o.op ≠ .select cs b)
    (hQ : ∀ c a w, Q (.panic c) (a.put oi.dst v) w → Q (.panic c) a w) (hp : Awaits md ops p i = true) (hpi : p ≠ i) :
    ∀ (fuel : Nat) (listed : Array Bool) (a : Act) (w : World), listed.getD p false = false →
      (∀ j oj, ops[j]? = some oj → j ≠ i → listed.getD j true = false → (∀ e ∈ oj.after, Region.binds md e = true → e.on ≠ i) → oi.apart ops oj = true) →
      i ∈ Region.ready md ops listed → YieldsIf P ops S oi v a → S w →
      wpAnyP P md ops Q S p fuel (listed.setIfInBounds i true) (a.put oi.dst v) w → wpAnyP P md ops Q S p (fuel + 1) listed a w := by
  intro fuel
  induction fuel with
  | zero =>
    intro listed a w hlp _ hr hy hS H
    refine ⟨fun h => (by rw [h] at hr; cases hr), fun j hj => ?_⟩
    by_cases hji : j = i
    · subst hji; exact hy.wpOp hi hS ⟨.inr (.inr hS), H⟩
    · have h0 := ready_mono hj hji
      rw [H.1] at h0
      cases h0
  | succ fuel ih =>
    intro listed a w hlp hfree hr hy hS H
    refine ⟨fun h => (by rw [h] at hr; cases hr), fun j hj => ?_⟩
    by_cases hji : j = i
    · subst hji; exact hy.wpOp hi hS ⟨.inr (.inr hS), H⟩
    · have h1 := H.2 j (ready_mono hj hji)
      obtain ⟨hjun, oj, hoj, hall⟩ := mem_ready.1 hj
      have hnot : ∀ e ∈ oj.after, Region.binds md e = true → e.on ≠ i := fun e he hb heq => by
        have h1 := hall e he hb
        have h0 := (mem_ready.1 hr).1
        rw [heq] at h1
        rcases Nat.lt_or_ge i listed.size with h' | h'
        · simp [h'] at h0 h1; rw [h0] at h1; cases h1
        · simp [Array.getElem?_eq_none h'] at h1
      have hjp : j ≠ p := fun e => by
        subst e
        unfold Awaits at hp
        rw [hoj] at hp
        simp only [Array.any_eq_true, Bool.and_eq_true, beq_iff_eq] at hp
        obtain ⟨n, hn, hb, he⟩ := hp
        exact hnot _ (Array.getElem_mem hn) hb he
      have h2 := wpOp_putIf hoj (hfree j oj hoj hji hjun hnot) (fun cs b => hsel i oi cs b hi) (fun cs b => hsel j oj cs b hoj) hQ hy h1
      have hfree' : ∀ k ok, ops[k]? = some ok → k ≠ i → (listed.setIfInBounds j true).getD k true = false →
          (∀ e ∈ ok.after, Region.binds md e = true → e.on ≠ i) → oi.apart ops ok = true := fun k ok hk hki hun hno => by
        refine hfree k ok hk hki ?_ hno
        by_cases hjk : j = k
        · subst hjk; exact hjun
        · rw [getD_set_ne true hjk] at hun; exact hun
      refine wpOp_mono (fun a' w' h3 => ?_) h2
      have hS' : S w' := by
        rcases h3.2.1 with h | h | h
        · rw [getD_set_ne false (Ne.symm hpi), hlp] at h; cases h
        · exact absurd h hjp
        · exact h
      refine ⟨.inr (.inr hS'), ih (listed.setIfInBounds j true) a' w' (by rw [getD_set_ne false hjp]; exact hlp) hfree' (ready_mono hr (Ne.symm hji)) h3.1 hS' ?_⟩
      rw [Array.setIfInBounds_comm _ _ hji]
      exact h3.2.2
theorem wpAnyP_take {i : Nat} {oi : Oper} {v : Value} {fuel : Nat} {listed : Array Bool} {a : Act} {w : World} (hi : ops[i]? = some oi)
    (hs : Region.noSelect ops = true) (hf : Region.free md ops listed i = true) (hr : (Region.ready md ops listed).contains i = true)
    (hp : (Awaits md ops p i && (p != i) && !(listed.getD p false)) = true)
    (hQ : ∀ c a w, Q (.panic c) (a.put oi.dst v) w → Q (.panic c) a w) (hy : YieldsIf P ops S oi v a) (hS : S w)
    (h : wpAnyP P md ops Q S p fuel (listed.setIfInBounds i true) (a.put oi.dst v) w) : wpAnyP P md ops Q S p (fuel + 1) listed a w := by
  simp only [Bool.and_eq_true, bne_iff_ne, ne_eq, Bool.not_eq_true'] at hp
  exact wpAnyP_first hi (Region.noSelect_spec hs) hQ hp.1.1 hp.1.2 fuel listed a w hp.2 (Region.free_spec hi hf) (by simpa using hr) hy hS h
def AllReadyP (P : Program) (md : Region.Mode) (ops : Array Oper) (Q : Exit → Act → World → Prop) (S : World → Prop) (p fuel : Nat) (listed : Array Bool) (a : Act) (w : World) (rs : List Nat) : Prop :=
  ∀ i ∈ rs, wpOp P ops Q i (fun a' w' => (listed.getD p false = true ∨ i = p ∨ S w') ∧ wpAnyP P md ops Q S p fuel (listed.setIfInBounds i true) a' w') a w
theorem AllReadyP.nil {fuel : Nat} {listed : Array Bool} {a : Act} {w : World} : AllReadyP P md ops Q S p fuel listed a w [] := fun _ h => by cases h
theorem AllReadyP.cons {fuel : Nat} {listed : Array Bool} {a : Act} {w : World} {i : Nat} {o : Oper} {rs : List Nat} (ho : ops[i]? = some o)
    (h : ∀ K' : Act → World → Prop, Shut (∀ a w, (listed.getD p false = true ∨ i = p ∨ S w) → wpAnyP P md ops Q S p fuel (listed.setIfInBounds i true) a w → K' a w) → if Region.wanted o (yielded ops a.tmps) = true then Oper.wp P o a w K' Q else K' (a.put o.dst undef) w)
    (hs : AllReadyP P md ops Q S p fuel listed a w rs) : AllReadyP P md ops Q S p fuel listed a w (i :: rs) := fun j hj => by
  rcases List.mem_cons.1 hj with rfl | hj
  · exact wpOp_step ho (fun K' hK => h K' (fun a w hS hW => hK a w ⟨hS, hW⟩))
  · exact hs j hj
theorem wpAnyP_ready {rs : List Nat} {fuel : Nat} {listed : Array Bool} {a : Act} {w : World} (hr : Region.ready md ops listed = rs) (hne : rs ≠ [])
    (h : AllReadyP P md ops Q S p fuel listed a w rs) : wpAnyP P md ops Q S p (fuel + 1) listed a w := ⟨fun h0 => absurd (hr ▸ h0) hne, hr ▸ h⟩
theorem wpAnyP_done {listed : Array Bool} {a : Act} {w : World} (hr : Region.ready md ops listed = []) (h : Q .normal a w) : ∀ fuel, wpAnyP P md ops Q S p fuel listed a w
  | 0 => ⟨hr, h⟩
  | _ + 1 => ⟨fun _ => h, by rw [hr]; simp⟩
/-- behind p no condition is left -/
theorem wpAnyP_tail : ∀ (fuel : Nat) (listed : Array Bool) (a : Act) (w : World), listed.getD p false = true → wpAnyH P md ops Q (fun _ => True) fuel listed a w → wpAnyP P md ops Q S p fuel listed a w
  | 0, _, _, _, _, h => h
  | fuel + 1, _, _, _, hp, h => ⟨h.1, fun i hi => wpOp_mono (fun a' w' h' => ⟨.inl hp, wpAnyP_tail fuel _ a' w' (getD_set_true hp) h'.2⟩) (h.2 i hi)⟩
theorem wp_region_pivot (p : Nat) {id : Nat} {a : Act} {w : World} (hm : P.follows .mixedOrders = true)
    (h : wpAnyP P .any ops Q S p ops.size (Array.replicate ops.size false) a w.drew) : (Code.region id ops true).wp P Q a w :=
  wp_region_any hm (wpAny_of_pivot _ _ _ _ h)
end
/-- append(kids, zero): the zero node lies in a box made before -/
theorem opN_append_at {o : Oper} {a : Act} {Q : Exit → Act → World → Prop} {K : Act → World → Prop} {W : World} {P0 : Nat → Prop} {acc : List N} {z : N} {lvz : Value} (v : Value) (Z : Nat)
    (s x : Operand) (ho : o.op = .call { callee := .builtin .append, args := #[s, x], argTypes := #[27, 27] })
    (hs : a.eval s = v) (hx : a.eval x = .slice (some ⟨Z, 0, none⟩) 1 1) (hZ : Box Z (cellsN z lvz).toArray 29 W)
    (HK : KidRow P0 W v acc) (HO : OwN (fun _ => False) W (cellsN z lvz) z) (hl : acc.length ≤ 300000)
    (h : ∀ v1 w1, KidRow (fun b => P0 b ∨ W.heap.size ≤ b) w1 v1 (acc ++ [z]) → Fr P0 W w1 → K (a.put o.dst v1) w1) :
    Oper.wp Tryz.prog o a W K Q := by
  obtain ⟨news, h1, h2⟩ := HK
  obtain ⟨i0, hi, hz0, hz1, hz2⟩ := info_parts infoNode
  obtain ⟨v1, w1, hr, hown, hg, _, hat⟩ := run_append_own_at (P := Tryz.prog) W 0 27 o.type 29 i0 _ 10 _ (Tryz.underlying27) hi hz0 hz1 hz2 rfl (by omega) v acc.length news h1.row ⟨Z, 0, none⟩ 1 1 (cellsN z lvz)
    (by simp [cellsN]) (World.news_of_block (cs := (cellsN z lvz).toArray) (t := 29) (fr := (0, 0)) hZ) HO.one (by unfold maxLen; omega) (by omega) (Nat.zero_le _)
  unfold Oper.wp execOp
  simp only [ho, resolve, invoke, builtin, Sem.run_bind, Sem.run_pure, Result.andThen_ok, List.map_toArray, List.map_cons, List.map_nil, hs, hx, hr]
  have hf : Fr (fun b => v.ownBlock = some b) W w1 := (Fr.refl _ W).grown hg fun k hk => hk
  have hb1 : ∀ b, v1.ownBlock = some b → v.ownBlock = some b ∨ b = W.heap.size := fun b hb => by
    rcases hat with hat | hat
    · exact .inl (hat ▸ hb)
    · rw [hat] at hb; injection hb with hb; exact .inr hb.symm
  refine h v1 w1 ⟨news ++ cellsN z lvz, ⟨by simpa using hown, fun b hb => (hb1 b hb).elim (fun e => .inl (h1.blk b e)) (fun e => .inr (by omega))⟩, ?_⟩ (hf.mono fun b _ hb => h1.blk b hb)
  have h6 := (h2.lt).fr hf fun b _ h1 h2 => h1.1.2 h2.symm
  have h7 : OwN (fun _ => False) w1 (cellsN z lvz) z := HO.fr hf fun b _ h8 _ => h8
  refine (OwNs.snoc h6 h7 fun b _ h => h).imp fun b _ hb => ?_
  rcases hb with hb | hb
  · refine ⟨.inl hb.1.1, fun e => ?_⟩
    rcases hb1 b e.symm with h | h
    · exact hb.1.2 h.symm
    · omega
  · exact hb.elim
/-- where there is a kid, the row lies in a block -/
theorem KidRow.block {P : Nat → Prop} {w : World} {v : Value} {l : List N} (h : KidRow P w v l) (hl : 0 < l.length) : ∃ b c, v = .slice (some ⟨b, 0, none⟩) l.length c ∧ P b ∧ b < w.heap.size ∧ l.length ≤ c ∧ ∃ cur, w.heap[b]? = some (.cells cur 29 (0, 0)) ∧ l.length * 10 ≤ cur.size := by
  obtain ⟨news, h1, h2⟩ := h
  rcases h1.row.2 with ⟨rfl, h0⟩ | ⟨g, cap, cur, rfl, _, hh, hle, hc1, hc2, _⟩
  · omega
  · exact ⟨g, cap, rfl, h1.blk g rfl, h1.lt g rfl, hle, cur, hh, by rw [hc2]; exact Nat.mul_le_mul_right 10 hle⟩
theorem row_cell {w : World} {b i : Nat} {cur : Array Value} {t : TypeId} (h : w.heap[b]? = some (.cells cur t (0, 0))) (hi : i < cur.size) : ∃ e, w.cell? ⟨b, i, none⟩ = some e ∧ w.frozen? ⟨b, i, none⟩ = false :=
  ⟨cur[i], (show Box b cur t w from h).cell i (by simp [hi]), (show Box b cur t w from h).melt i⟩
end Go.Proofs.YtlnhhffhmeekoaaGreatDoor
