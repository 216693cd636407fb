/- What can't go on with a token can't, whatever stands behind that: the plain law. An expression is read within a function as it is alone, but for places, where no more is open than may be: the plain law. ParseWithin: an expression is read within a function as it is alone, but for places. The plain law. -/
import Derived.Test.YtlnhhffhmeekoaaGreatDoorGParP
import Derived.Test.YtlnhhffhmeekoaaGreatDoorGLexP
import Derived.Test.YtlnhhffhmeekoaaGreatDoorPrintEq
set_option linter.unusedVariables false
set_option linter.unusedSimpArgs false
namespace Go.Proofs.YtlnhhffhmeekoaaGreatDoor

theorem PR.le_bad {α : Type} {r r' : PR α} {e p : Nat} (h : r.le r') (hr : r = .bad e p) : r' = .bad e p := by
  rcases h with h | h
  · rw [h] at hr; cases hr
  · rw [← h, hr]
theorem PR.le_ok {α : Type} {r r' : PR α} {x : α} {ts : List Tok} (h : r.le r') (hr : r = .ok x ts) : r' = .ok x ts := by
  rcases h with h | h
  · rw [h] at hr; cases hr
  · rw [← h, hr]
theorem PR.le_eq {α : Type} {r r' : PR α} (h : r.le r') (hr : r ≠ .out) : r' = r := by
  rcases h with h | h
  · exact absurd h hr
  · exact h.symm
/-- the tokens' tails -/
def TailOf (ts : List Tok) (t : List Tok) : Prop := ∃ j, j < ts.length ∧ t = ts.drop j
theorem tailOf_tails {ts : List Tok} (hl : ∃ u e, ts = u ++ [e] ∧ e.kind = 0) : Tails (TailOf ts) := by
  obtain ⟨u, e, rfl, he⟩ := hl
  rintro t ⟨j, hj, rfl⟩ h0
  by_cases h : j + 1 < (u ++ [e]).length
  · exact ⟨j + 1, h, by rw [List.tail_drop]⟩
  · exfalso
    have : j = u.length := by simp at hj h; omega
    subst this
    simp [hdT] at h0
    exact h0 he
theorem hd_drop {ts : List Tok} {j : Nat} (hj : j < ts.length) : (hdT (ts.drop j)).pos = posAt ts j := by
  rw [hdT, posAt, List.getD, List.getElem?_eq_getElem hj, List.drop_eq_getElem_cons hj]
  rfl
theorem readS_bad {all : Nat → List Tok → PR N} {s : List UInt8} {ts : List Tok} {p : Nat} (hA : allS s = .ok ts) (h : readS all s = (zeroN, p, 170)) : all (16 * ts.length + 16) ts = .bad 170 p := by
  rw [readS, hA] at h
  simp only at h
  split at h
  · injection h with h1 h2; injection h2 with h2 h3; cases h3
  · injection h with h1 h2; injection h2 with h2 h3; subst h2 h3; assumption
  · injection h with h1 h2; injection h2 with h2 h3; cases h3
theorem okrun_past {l : List UInt8} {ts : List Tok} (h : OkRun l 0 ts) {i : Nat} (hi : i + 1 < ts.length) : Past (posAt ts i) (ts.drop (i + 1)) := by
  obtain ⟨u, hu⟩ := h.last
  have mono : ∀ d, i + 1 + d < ts.length → posAt ts i < posAt ts (i + 1 + d) := by
    intro d
    induction d with
    | zero => intro hd; exact h.rise i hi
    | succ d ih => intro hd; exact Nat.lt_trans (ih (by omega)) (h.rise (i + 1 + d) (by omega))
  refine ⟨fun t ht => ?_, u.drop (i + 1), ⟨0, [], 0, 0 + l.length⟩, ?_, rfl⟩
  · obtain ⟨d, hd, rfl⟩ := List.getElem_of_mem ht
    have hd' : i + 1 + d < ts.length := by simp at hd; omega
    have := mono d hd'
    rw [List.getElem_drop]
    have e : posAt ts (i + 1 + d) = ts[i + 1 + d].pos := by rw [posAt, List.getD, List.getElem?_eq_getElem hd']; rfl
    rw [← e]
    exact this
  · conv => lhs; rw [hu]
    rw [List.drop_append_of_le_length]
    have := congrArg List.length hu
    simp at this
    omega
theorem parse_stops {s : List UInt8} {ts : List Tok} (hA : allS s = .ok ts) {p : Nat} (hB : parseP s = (zeroN, p, 170)) :
    ∃ i, i < ts.length ∧ p = posAt ts i ∧ (i + 1 = ts.length → p = s.length) ∧ (i + 1 < ts.length → p < s.length ∧ ∀ rest ts', allS (s.take (posAt ts (i + 1)) ++ 10 :: rest) = .ok ts' → parseP (s.take (posAt ts (i + 1)) ++ 10 :: rest) = (zeroN, p, 170)) := by
  obtain ⟨hlen, hrun⟩ := allS_okrun hA
  obtain ⟨u, hu⟩ := hrun.last
  have hr : pFns (16 * ts.length + 16) [] ts = .bad 170 p := readS_bad hA hB
  have hinv := inv_fns (tailOf_tails ⟨u, _, hu, rfl⟩) (16 * ts.length + 16) [] (ts := ts) ⟨0, by rw [hu]; simp, rfl⟩
  rw [hr] at hinv
  obtain ⟨_, t, ⟨i, hi, rfl⟩, hp⟩ := hinv
  rw [hd_drop hi] at hp
  refine ⟨i, hi, hp, fun hlast => ?_, fun hmore => ⟨?_, fun rest ts' hB' => ?_⟩⟩
  · have hul : i = u.length := by have := congrArg List.length hu; simp at this; omega
    rw [hp, posAt, hu, hul]
    simp
  · have h1 := hrun.rise i hmore
    have h2 := (hrun.ge (i + 1) hmore).2
    omega
  · have hc := allS_cut hA hmore
    have hc1 := hc
    unfold allS at hc1
    rw [if_neg (by rw [List.length_take]; omega)] at hc1
    obtain ⟨ts0, bb, e1, e2⟩ := run_app sep_nl rest _ _ _ _ _ hc1 (Nat.lt_succ_self _)
    rw [List.nil_append] at e1 e2
    obtain ⟨e3, _⟩ := List.append_inj' e1 rfl
    subst e3
    have hB1 := hB'
    unfold allS at hB1
    split at hB1
    · cases hB1
    · rw [e2] at hB1
      obtain ⟨more, e4, _⟩ := run_ok _ _ _ _ _ hB1
      have hsh : Sh p ts ts' := by
        have hsp : ts = ts.take (i + 1) ++ ts.drop (i + 1) := (List.take_append_drop _ _).symm
        cases hta : ts.take (i + 1) with
        | nil => have h0 : (ts.take (i + 1)).length = 0 := by rw [hta]; rfl
                 rw [List.length_take] at h0; omega
        | cons t a =>
          rw [hta] at hsp e4
          exact ⟨t, a, _, more, hsp, e4, by rw [hp]; exact okrun_past hrun hmore⟩
      have h5 := rs_fns (16 * ts.length + 16) [] hsh
      rw [hr] at h5
      have h6 : pFns (16 * ts.length + 16) [] ts' = .bad 170 p := by
        rcases h5 with h5 | h5
        · omega
        · exact h5
      have h7 : pFns (16 * ts'.length + 16) [] ts' = .bad 170 p := by
        have hf := (fine_fns (f := 16 * ts'.length + 16) (acc := []) (ts := ts') (by omega)).1
        by_cases hle : ts.length ≤ ts'.length
        · exact PR.le_bad (fns_le (by omega) _ _) h6
        · rw [← h6]
          exact (PR.le_eq (fns_le (by omega) _ _) hf).symm
      rw [parseP, readS, hB']
      simp only [h7]
theorem parse_err {s : List UInt8} {q e : Nat} (h : allS s = .error (q, e)) (all : Nat → List Tok → PR N) : readS all s = (zeroN, q, e) := by rw [readS, h]
end Go.Proofs.YtlnhhffhmeekoaaGreatDoor
namespace Go.Proofs.YtlnhhffhmeekoaaGreatDoor

/-- the same token at another place -/
def TokSame (t t' : Tok) : Prop := t'.kind = t.kind ∧ t'.text = t.text ∧ t'.n = t.n
/-- an expression's tokens alone, and ahead of a semicolon -/
inductive Wn (sm : Tok) (q : List Tok) : List Tok → List Tok → Prop
  | stop {e : Tok} (he : e.kind = 0) (hs : (sm.kind = 5 ∧ sm.text = [59]) ∨ sm.kind = 0) : Wn sm q [e] (sm :: q)
  | step {t t' : Tok} {ts ts' : List Tok} (h : TokSame t t') (h0 : t.kind ≠ 0) (hw : Wn sm q ts ts') : Wn sm q (t :: ts) (t' :: ts')
section
variable {sm : Tok} {q : List Tok}
theorem isT_same {t t' : Tok} (h : TokSame t t') {s : List UInt8} {ts ts' : List Tok} : isT s (t' :: ts') = isT s (t :: ts) := by
  cases t; cases t'
  obtain ⟨h1, h2, h3⟩ := h
  simp only at h1 h2 h3
  subst h1 h2 h3
  rfl
theorem bindT_same {t t' : Tok} (h : TokSame t t') : bindT t' = bindT t := by
  cases t; cases t'
  obtain ⟨h1, h2, h3⟩ := h
  simp only at h1 h2 h3
  subst h1 h2 h3
  rfl
theorem wn_isT {ts ts' : List Tok} (h : Wn sm q ts ts') {s : List UInt8} (hs : s ≠ [59]) : isT s ts' = isT s ts := by
  cases h with
  | stop he h =>
    unfold isT
    simp only [hdT, List.headD_cons, he]
    rcases h with ⟨h1, h2⟩ | h1
    · have : ¬ [59] = s := fun h => hs h.symm
      simp [h1, h2, this]
    · simp [h1]
  | step h h0 hw => exact isT_same h
theorem wn_kind {ts ts' : List Tok} (h : Wn sm q ts ts') {c : Nat} (hc : c ≠ 0) (hc5 : c ≠ 5) : ((hdT ts').kind = c) ↔ ((hdT ts).kind = c) := by
  cases h with
  | stop he h =>
    simp only [hdT, List.headD_cons, he]
    rcases h with ⟨h1, -⟩ | h1 <;> rw [h1] <;> omega
  | step h h0 hw => simp only [hdT, List.headD_cons, h.1]
theorem wn_same {ts ts' : List Tok} (h : Wn sm q ts ts') (h0 : (hdT ts).kind ≠ 0) : TokSame (hdT ts) (hdT ts') ∧ Wn sm q ts.tail ts'.tail := by
  cases h with
  | stop he h => exact absurd he h0
  | step h h0 hw => exact ⟨h, hw⟩
theorem wn_bind {ts ts' : List Tok} (h : Wn sm q ts ts') : bindT (hdT ts') = bindT (hdT ts) := by
  cases h with
  | stop he h =>
    rename_i e
    have h1 : bindT sm = 0 := by
      unfold bindT
      rcases h with ⟨h1, h2⟩ | h1
      · rw [h2]; split <;> rfl
      · rw [if_neg (by omega)]
    have h2 : bindT e = 0 := by unfold bindT; rw [if_neg (by omega)]
    exact h1.trans h2.symm
  | step h h0 hw => exact bindT_same h
def RW (sm : Tok) (q : List Tok) {α : Type} (R : α → α → Prop) (r r' : PR α) : Prop :=
  match r with
  | .ok n t => (∃ p, r' = .bad 171 p) ∨ ∃ n' t', r' = .ok n' t' ∧ R n n' ∧ Wn sm q t t'
  | _ => True
abbrev eN (n n' : N) : Prop := eqN n n' = true
abbrev eNs (l l' : List N) : Prop := eqNs l l' = true
section
theorem rw_bad {α : Type} {R : α → α → Prop} {e p : Nat} {r' : PR α} : RW sm q R (.bad e p) r' := trivial
theorem rw_out {α : Type} {R : α → α → Prop} {r' : PR α} : RW sm q R .out r' := trivial
theorem rw_ok {α : Type} {R : α → α → Prop} {x x' : α} {ts ts' : List Tok} (h : R x x') (hw : Wn sm q ts ts') : RW sm q R (.ok x ts) (.ok x' ts') := .inr ⟨x', ts', rfl, h, hw⟩
theorem rw_bind {α β : Type} {R : α → α → Prop} {R' : β → β → Prop} {r r' : PR α} {k k' : α → List Tok → PR β} (h : RW sm q R r r') (hk : ∀ n n' t t', R n n' → Wn sm q t t' → RW sm q R' (k n t) (k' n' t')) : RW sm q R' (r.bind k) (r'.bind k') := by
  cases r with
  | out => trivial
  | bad e p => trivial
  | ok n t =>
    rcases h with ⟨p, rfl⟩ | ⟨n', t', rfl, h1, h2⟩
    · show RW sm q R' (k n t) (.bad 171 p)
      cases hz : k n t with
      | out => trivial
      | bad e p => trivial
      | ok x y => exact .inl ⟨p, rfl⟩
    · exact hk n n' t t' h1 h2
theorem rw_ite {α : Type} {R : α → α → Prop} {c c' : Prop} [Decidable c] [Decidable c'] {a a' b b' : PR α} (hc : c' ↔ c) (h : c → RW sm q R a a') (h' : ¬ c → RW sm q R b b') : RW sm q R (if c then a else b) (if c' then a' else b') := by
  by_cases hx : c
  · rw [if_pos hx, if_pos (hc.2 hx)]
    exact h hx
  · rw [if_neg hx, if_neg (fun y => hx (hc.1 y))]
    exact h' hx
theorem rw_opens {α : Type} {R : α → α → Prop} {o : Nat} {ts ts' : List Tok} {k k' : List Tok → PR α} (hk : RW sm q R (k ts.tail) (k' ts'.tail)) : RW sm q R (opensT o ts k) (opensT (o + 1) ts' k') := by
  unfold opensT
  by_cases h : o = 24
  · rw [if_pos h]; trivial
  · rw [if_neg h]
    by_cases h' : o + 1 = 24
    · rw [if_pos h']
      cases hz : k ts.tail with
      | out => trivial
      | bad e p => trivial
      | ok x y => exact .inl ⟨_, rfl⟩
    · rw [if_neg h']
      exact hk
theorem isT_ne0 {s : List UInt8} {ts : List Tok} (h : isT s ts = true) : (hdT ts).kind ≠ 0 := isT_kind h
theorem rw_must {s : List UInt8} {ts ts' : List Tok} (hs : s ≠ [59]) (h : Wn sm q ts ts') : RW sm q TokSame (mustT s ts) (mustT s ts') := by
  unfold mustT
  refine rw_ite (by rw [wn_isT h hs]) (fun hc => ?_) fun _ => trivial
  have := wn_same h (isT_kind hc)
  exact rw_ok this.1 this.2
theorem rw_name {ts ts' : List Tok} (h : Wn sm q ts ts') : RW sm q TokSame (nameT ts) (nameT ts') := by
  unfold nameT
  refine rw_ite (wn_kind h (by decide) (by decide)) (fun hc => ?_) fun _ => trivial
  have := wn_same h (by omega)
  exact rw_ok this.1 this.2
end
theorem en_mk {k : Int} {t : List UInt8} {x : V} {f : Bool} {l l' : List N} {a a' : Int} (h : eNs l l') : eN (.mk k t x f l a) (.mk k t x f l' a') := by
  show eqN _ _ = true
  rw [eqN, eqV_self, h]
  simp
theorem ens_nil : eNs [] [] := rfl
theorem ens_cons {n n' : N} {l l' : List N} (h : eN n n') (h' : eNs l l') : eNs (n :: l) (n' :: l') := by
  show eqNs _ _ = true
  rw [eqNs, h, h']
  rfl
theorem ens_snoc : ∀ {l l' : List N} {n n' : N}, eNs l l' → eN n n' → eNs (l ++ [n]) (l' ++ [n'])
  | [], [], n, n', h, h' => ens_cons h' ens_nil
  | x :: l, y :: l', n, n', h, h' => by
    have h : eqNs (x :: l) (y :: l') = true := h
    rw [eqNs, Bool.and_eq_true] at h
    exact ens_cons h.1 (ens_snoc h.2 h')
  | [], _ :: _, n, n', h, h' => by
    have h : eqNs [] _ = true := h
    rw [eqNs] at h; exact absurd h (by decide)
  | _ :: _, [], n, n', h, h' => by
    have h : eqNs _ [] = true := h
    rw [eqNs] at h; exact absurd h (by decide)
structure WithE (sm : Tok) (q : List Tok) (f : Nat) : Prop where
  bin : ∀ k o ts ts', 1 ≤ k → Wn sm q ts ts' → RW sm q eN (pBin f k o ts) (pBin f k (o + 1) ts')
  binT : ∀ k o n n' ts ts', 1 ≤ k → eN n n' → Wn sm q ts ts' → RW sm q eN (pBinT f k o n ts) (pBinT f k (o + 1) n' ts')
  un : ∀ o ts ts', Wn sm q ts ts' → RW sm q eN (pUn f o ts) (pUn f (o + 1) ts')
  post : ∀ o ts ts', Wn sm q ts ts' → RW sm q eN (pPost f o ts) (pPost f (o + 1) ts')
  postT : ∀ o n n' ts ts', eN n n' → Wn sm q ts ts' → RW sm q eN (pPostT f o n ts) (pPostT f (o + 1) n' ts')
  prim : ∀ o ts ts', Wn sm q ts ts' → RW sm q eN (pPrim f o ts) (pPrim f (o + 1) ts')
  row : ∀ c e o ts ts', e ≠ [59] → Wn sm q ts ts' → RW sm q eNs (pRow f c e o ts) (pRow f c e (o + 1) ts')
  rowT : ∀ c e o acc acc' ts ts', e ≠ [59] → eNs acc acc' → Wn sm q ts ts' → RW sm q eNs (pRowT f c e o acc ts) (pRowT f c e (o + 1) acc' ts')
  item : ∀ c o ts ts', Wn sm q ts ts' → RW sm q eN (pItem f c o ts) (pItem f c (o + 1) ts')
theorem withE : ∀ f, WithE sm q f
  | 0 => ⟨fun _ _ _ _ _ _ => by rw [pBin]; trivial, fun _ _ _ _ _ _ _ _ _ => by rw [pBinT]; trivial, fun _ _ _ _ => by rw [pUn]; trivial, fun _ _ _ _ => by rw [pPost]; trivial, fun _ _ _ _ _ _ _ => by rw [pPostT]; trivial,
      fun _ _ _ _ => by rw [pPrim]; trivial, fun _ _ _ _ _ _ _ => by rw [pRow]; trivial, fun _ _ _ _ _ _ _ _ _ _ => by rw [pRowT]; trivial, fun _ _ _ _ _ => by rw [pItem]; trivial⟩
  | f + 1 => by
    have ih := withE f
    constructor
    · intro k o ts ts' hk h; simp only [pBin]
      exact rw_ite Iff.rfl (fun _ => ih.un _ _ _ h) fun _ => rw_bind (ih.bin _ _ _ _ (by omega) h) fun n n' t t' hn h => ih.binT _ _ _ _ _ _ hk hn h
    · intro k o n n' ts ts' hk hn h; simp only [pBinT]
      refine rw_ite (by rw [wn_bind h]) (fun hb => ?_) fun _ => rw_ok hn h
      have h0 : (hdT ts).kind ≠ 0 := fun h0 => by
        unfold bindT at hb
        rw [if_neg (by omega)] at hb
        omega
      obtain ⟨hs, ht⟩ := wn_same h h0
      rw [hs.2.1]
      exact rw_bind (ih.bin _ _ _ _ (by omega) ht) fun m m' t t' hm h => rw_ite Iff.rfl (fun _ => rw_ok (en_mk (ens_cons hn (ens_cons hm ens_nil))) h) fun _ => ih.binT _ _ _ _ _ _ hk (en_mk (ens_cons hn (ens_cons hm ens_nil))) h
    · intro o ts ts' h; simp only [pUn]
      refine rw_ite (by rw [wn_isT h (by decide), wn_isT h (by decide)]) (fun hc => rw_opens ?_) fun _ => ih.post _ _ _ h
      have h0 : (hdT ts).kind ≠ 0 := by rcases hc with hc | hc <;> exact isT_kind hc
      obtain ⟨hs, ht⟩ := wn_same h h0
      rw [hs.2.1]
      exact rw_bind (ih.un _ _ _ ht) fun n n' t t' hn h => rw_ok (en_mk (ens_cons hn ens_nil)) h
    · intro o ts ts' h; simp only [pPost]
      exact rw_bind (ih.prim _ _ _ h) fun n n' t t' hn h => ih.postT _ _ _ _ _ hn h
    · intro o n n' ts ts' hn h; simp only [pPostT]
      refine rw_ite (by rw [wn_isT h (by decide)]) (fun hc => rw_opens ?_) fun _ => rw_ite (by rw [wn_isT h (by decide)]) (fun hc => ?_) fun _ => rw_ok hn h
      · obtain ⟨hs, ht⟩ := wn_same h (isT_kind hc)
        exact rw_bind (ih.bin _ _ _ _ (by omega) ht) fun m m' t t' hm h => rw_bind (rw_must (by decide) h) fun _ _ t t' _ h => ih.postT _ _ _ _ _ (en_mk (ens_cons hn (ens_cons hm ens_nil))) h
      · obtain ⟨hs, ht⟩ := wn_same h (isT_kind hc)
        refine rw_bind (rw_name ht) fun x x' t t' hx h => ?_
        rw [hx.2.1]
        exact ih.postT _ _ _ _ _ (en_mk (ens_cons hn ens_nil)) h
    · intro o ts ts' h; simp only [pPrim]
      refine rw_ite (wn_kind h (by decide) (by decide)) (fun hc => ?_) fun _ => rw_ite (wn_kind h (by decide) (by decide)) (fun hc => ?_) fun _ => rw_ite (by rw [wn_isT h (by decide)]) (fun hc => ?_) fun _ => rw_ite (by rw [wn_isT h (by decide)]) (fun hc => ?_) fun _ =>
        rw_ite (by rw [wn_isT h (by decide)]) (fun hc => ?_) fun _ => rw_ite (wn_kind h (by decide) (by decide)) (fun hc => ?_) fun _ => rw_ite (by rw [wn_isT h (by decide)]) (fun hc => rw_opens ?_) fun _ =>
        rw_ite (by rw [wn_isT h (by decide)]) (fun hc => rw_opens ?_) fun _ => rw_ite (by rw [wn_isT h (by decide)]) (fun hc => rw_opens ?_) fun _ => trivial
      · obtain ⟨hs, ht⟩ := wn_same h (by omega)
        rw [hs.2.2]; exact rw_ok (en_mk ens_nil) ht
      · obtain ⟨hs, ht⟩ := wn_same h (by omega)
        rw [hs.2.1]; exact rw_ok (en_mk ens_nil) ht
      · exact rw_ok (en_mk ens_nil) (wn_same h (isT_kind hc)).2
      · exact rw_ok (en_mk ens_nil) (wn_same h (isT_kind hc)).2
      · exact rw_ok (en_mk ens_nil) (wn_same h (isT_kind hc)).2
      · obtain ⟨hs, ht⟩ := wn_same h (by omega)
        rw [hs.2.1]
        refine rw_ite (by rw [wn_isT ht (by decide)]) (fun hc => rw_opens ?_) fun _ => rw_ok (en_mk ens_nil) ht
        exact rw_bind (ih.row _ _ _ _ _ (by decide) (wn_same ht (isT_kind hc)).2) fun l l' t t' hl h => rw_ok (en_mk hl) h
      · exact rw_bind (ih.bin _ _ _ _ (by omega) (wn_same h (isT_kind hc)).2) fun m m' t t' hm h => rw_bind (rw_must (by decide) h) fun _ _ t t' _ h => rw_ok hm h
      · exact rw_bind (ih.row _ _ _ _ _ (by decide) (wn_same h (isT_kind hc)).2) fun l l' t t' hl h => rw_ok (en_mk hl) h
      · exact rw_bind (ih.row _ _ _ _ _ (by decide) (wn_same h (isT_kind hc)).2) fun l l' t t' hl h => rw_ok (en_mk hl) h
    · intro c e o ts ts' he h; simp only [pRow]
      exact rw_ite (by rw [wn_isT h he]) (fun hc => rw_ok ens_nil (wn_same h (isT_kind hc)).2) fun _ => ih.rowT _ _ _ _ _ _ _ he ens_nil h
    · intro c e o acc acc' ts ts' he ha h; simp only [pRowT]
      refine rw_bind (ih.item _ _ _ _ h) fun n n' t t' hn h => rw_ite (by rw [wn_isT h (by decide)]) (fun hc => ih.rowT _ _ _ _ _ _ _ he (ens_snoc ha hn) (wn_same h (isT_kind hc)).2) fun _ => rw_bind (rw_must he h) fun _ _ t t' _ h => rw_ok (ens_snoc ha hn) h
    · intro c o ts ts' h; simp only [pItem]
      refine rw_ite Iff.rfl (fun _ => ih.bin _ _ _ _ (by omega) h) fun _ => rw_ite Iff.rfl (fun _ => ?_) fun _ => ?_
      · by_cases hc : (hdT ts).kind = 1 ∨ (hdT ts).kind = 4
        · obtain ⟨hs, ht⟩ := wn_same h (by omega)
          rw [hs.1, hs.2.1]
          exact rw_ite Iff.rfl (fun _ => rw_bind (rw_must (by decide) ht) fun _ _ t t' _ h => rw_bind (ih.bin _ _ _ _ (by omega) h) fun n n' t t' hn h => rw_ok (en_mk (ens_cons hn ens_nil)) h) fun _ => trivial
        · rw [if_neg (fun hx => hc hx.1)]
          trivial
      · refine rw_bind (rw_name h) fun x x' t t' hx h => ?_
        rw [hx.2.1]
        exact rw_ok (en_mk ens_nil) h
end
end Go.Proofs.YtlnhhffhmeekoaaGreatDoor
namespace Go.Proofs.YtlnhhffhmeekoaaGreatDoor

/-- tokens that are the same but for places -/
inductive Sames : List Tok → List Tok → Prop
  | nil : Sames [] []
  | cons {t t' : Tok} {ts ts' : List Tok} (h : TokSame t t') (hs : Sames ts ts') : Sames (t :: ts) (t' :: ts')
theorem run_shift (f : Nat) : ∀ (l : List UInt8) (pos : Nat) (acc toks : List Tok), allRun f l pos acc = .ok toks → ∀ pos' acc', ∃ us us', toks = acc ++ us ∧ allRun f l pos' acc' = .ok (acc' ++ us') ∧ Sames us us' := by
  induction f with
  | zero => intro l pos acc toks h; simp [allRun] at h
  | succ f ih =>
    intro l pos acc toks h pos' acc'
    simp only [allRun] at h ⊢
    split at h
    · rename_i hr
      injection h with h
      rw [if_pos hr]
      exact ⟨_, _, h.symm, rfl, .cons ⟨rfl, rfl, rfl⟩ .nil⟩
    · rename_i hr
      rw [if_neg hr]
      split at h
      · cases h
      · rename_i k t n m ht
        obtain ⟨us, us', h1, h2, h3⟩ := ih _ _ _ _ h (pos' + (l.length - (skip false l).length) + m) (acc' ++ [⟨k, t, n, pos' + (l.length - (skip false l).length)⟩])
        exact ⟨⟨k, t, n, pos + (l.length - (skip false l).length)⟩ :: us, ⟨k, t, n, pos' + (l.length - (skip false l).length)⟩ :: us', by rw [h1, List.append_assoc]; rfl, h2.trans (by rw [List.append_assoc]; rfl), .cons ⟨rfl, rfl, rfl⟩ h3⟩
theorem wn_of {sm : Tok} {q : List Tok} {e e' : Tok} (he : e.kind = 0) (hs : (sm.kind = 5 ∧ sm.text = [59]) ∨ sm.kind = 0) : ∀ {u ts : List Tok}, Sames (u ++ [e]) (ts ++ [e']) → (∀ t ∈ u, t.kind ≠ 0) → Wn sm q (u ++ [e]) (ts ++ sm :: q)
  | [], [], _, _ => .stop he hs
  | [], t :: ts, h, _ => by
    cases h with
    | cons _ h => cases ts <;> cases h
  | x :: u, [], h, _ => by
    cases h with
    | cons _ h => cases u <;> cases h
  | x :: u, t :: ts, h, hk => by
    cases h with
    | cons h1 h => exact .step h1 (hk x (by simp)) (wn_of he hs h fun t ht => hk t (by simp [ht]))
abbrev preB : List UInt8 := [102, 110, 32, 102, 40, 41, 32, 123, 32, 114, 101, 116, 117, 114, 110, 32]
abbrev preT : List Tok := [⟨2, [102, 110], 0, 0⟩, ⟨1, [102], 0, 3⟩, ⟨5, [40], 0, 4⟩, ⟨5, [41], 0, 5⟩, ⟨5, [123], 0, 7⟩, ⟨2, [114, 101, 116, 117, 114, 110], 0, 9⟩]
theorem allFrom_sp (l : List UInt8) (pos : Nat) (acc : List Tok) : allFrom (32 :: l) pos acc = allFrom l (pos + 1) acc := by
  rw [allFrom_skip (32 :: l), allFrom_skip l (pos + 1)]
  have e : skip false (32 :: l) = skip false l := by rfl
  have := skip_len false l
  rw [e]
  congr 1
  simp only [List.length_cons]
  omega
theorem pre_lex (x : List UInt8) : allFrom (preB ++ x) 0 [] = allFrom x 16 preT := by
  refine Eq.trans (allFrom_tok (k := 2) (t := [102, 110]) (n := 0) (m := 2) (by simp) (by rfl) (by rfl)) ?_
  refine Eq.trans (allFrom_sp (102 :: 40 :: 41 :: 32 :: 123 :: 32 :: 114 :: 101 :: 116 :: 117 :: 114 :: 110 :: 32 :: x) 2 _) ?_
  refine Eq.trans (allFrom_tok (k := 1) (t := [102]) (n := 0) (m := 1) (by simp) (by rfl) (by rfl)) ?_
  refine Eq.trans (allFrom_tok (l := 40 :: 41 :: 32 :: 123 :: 32 :: 114 :: 101 :: 116 :: 117 :: 114 :: 110 :: 32 :: x) (k := 5) (t := [40]) (n := 0) (m := 1) (by simp) (by rfl) (by rfl)) ?_
  refine Eq.trans (allFrom_tok (l := 41 :: 32 :: 123 :: 32 :: 114 :: 101 :: 116 :: 117 :: 114 :: 110 :: 32 :: x) (k := 5) (t := [41]) (n := 0) (m := 1) (by simp) (by rfl) (by rfl)) ?_
  refine Eq.trans (allFrom_sp (123 :: 32 :: 114 :: 101 :: 116 :: 117 :: 114 :: 110 :: 32 :: x) _ _) ?_
  refine Eq.trans (allFrom_tok (k := 5) (t := [123]) (n := 0) (m := 1) (by simp) (by rfl) (by rfl)) ?_
  refine Eq.trans (allFrom_sp (114 :: 101 :: 116 :: 117 :: 114 :: 110 :: 32 :: x) _ _) ?_
  refine Eq.trans (allFrom_tok (k := 2) (t := [114, 101, 116, 117, 114, 110]) (n := 0) (m := 6) (by simp) (by rfl) (by rfl)) ?_
  exact allFrom_sp x _ _
/-- what no expression begins with -/
def NoExpr (ts : List Tok) : Prop := isT [59] ts = true ∨ (hdT ts).kind = 0
theorem no_isT {ts : List Tok} (h : NoExpr ts) {s : List UInt8} (hs : s ≠ [59]) : isT s ts = false := by
  unfold NoExpr isT at h
  unfold isT
  rcases h with h | h
  · simp only [Bool.and_eq_true, decide_eq_true_eq] at h
    have : ¬ [59] = s := fun h => hs h.symm
    simp [h.2, this]
  · simp [h]
theorem no_kind {ts : List Tok} (h : NoExpr ts) {c : Nat} (h0 : c ≠ 0) (h5 : c ≠ 5) (h2 : c ≠ 2) : (hdT ts).kind ≠ c := by
  unfold NoExpr isT at h
  rcases h with h | h
  · simp only [Bool.and_eq_true, Bool.or_eq_true, decide_eq_true_eq] at h
    omega
  · omega
structure NoE (ts : List Tok) (f : Nat) : Prop where
  bin : ∀ k o n r, pBin f k o ts ≠ .ok n r
  un : ∀ o n r, pUn f o ts ≠ .ok n r
  post : ∀ o n r, pPost f o ts ≠ .ok n r
  prim : ∀ o n r, pPrim f o ts ≠ .ok n r
theorem bind_no {α β : Type} {r : PR α} {k : α → List Tok → PR β} (h : ∀ n t, r ≠ .ok n t) (x : β) (t : List Tok) : r.bind k ≠ .ok x t := by
  cases r with
  | out => simp [PR.bind]
  | bad e p => simp [PR.bind]
  | ok n t => exact absurd rfl (h n t)
theorem noE {ts : List Tok} (h : NoExpr ts) : ∀ f, NoE ts f
  | 0 => ⟨fun _ _ _ _ => by rw [pBin]; simp, fun _ _ _ => by rw [pUn]; simp, fun _ _ _ => by rw [pPost]; simp, fun _ _ _ => by rw [pPrim]; simp⟩
  | f + 1 => by
    have ih := noE h f
    refine ⟨fun k o n r => ?_, fun o n r => ?_, fun o n r => ?_, fun o n r => ?_⟩
    · rw [pBin]
      split
      · exact ih.un _ _ _
      · exact bind_no (ih.bin _ _) _ _
    · rw [pUn, if_neg (by rw [no_isT h (by decide), no_isT h (by decide)]; simp)]
      exact ih.post _ _ _
    · rw [pPost]
      exact bind_no (ih.prim _) _ _
    · rw [pPrim, if_neg (no_kind h (by decide) (by decide) (by decide)), if_neg (no_kind h (by decide) (by decide) (by decide)), if_neg (by rw [no_isT h (by decide)]; simp), if_neg (by rw [no_isT h (by decide)]; simp), if_neg (by rw [no_isT h (by decide)]; simp), if_neg (no_kind h (by decide) (by decide) (by decide)),
        if_neg (by rw [no_isT h (by decide)]; simp), if_neg (by rw [no_isT h (by decide)]; simp), if_neg (by rw [no_isT h (by decide)]; simp)]
      simp
theorem readS_ok {all : Nat → List Tok → PR N} {s : List UInt8} {n : N} {p : Nat} (hbad : ∀ f ts e q, all f ts = .bad e q → e ≠ 0) (hout : ∀ ts, all (16 * ts.length + 16) ts ≠ .out) (h : readS all s = (n, p, 0)) : ∃ T r, allS s = .ok T ∧ all (16 * T.length + 16) T = .ok n r := by
  unfold readS at h
  split at h
  · rename_i q e hA
    injection h with h1 h2
    injection h2 with h2 h3
    exact absurd h3 (allS_ne0 hA)
  · rename_i T hA
    split at h
    · rename_i n1 r hr
      injection h with h1 h2
      exact ⟨T, r, hA, by rw [hr, h1]⟩
    · rename_i e q hr
      injection h with h1 h2
      injection h2 with h2 h3
      exact absurd h3 (hbad _ _ _ _ hr)
    · rename_i hr
      exact absurd hr (hout T)
theorem tails_true : Tails (fun _ => True) := fun _ _ _ => trivial
theorem top_ne0 (f : Nat) (ts : List Tok) (e q : Nat) (h : pExprTop f ts = .bad e q) : e ≠ 0 := by
  have := inv_top tails_true f (ts := ts) trivial
  rw [h] at this
  rcases this.1 with h | h <;> omega
theorem fns_ne0 (f : Nat) (ts : List Tok) (e q : Nat) (h : pFns f [] ts = .bad e q) : e ≠ 0 := by
  have := inv_fns tails_true f [] (ts := ts) trivial
  rw [h] at this
  rcases this.1 with h | h <;> omega
theorem top_ok {f : Nat} {ts r : List Tok} {n : N} (h : pExprTop f ts = .ok n r) : pBin f 1 0 ts = .ok n r ∧ (hdT r).kind = 0 := by
  unfold pExprTop at h
  cases hb : pBin f 1 0 ts with
  | out => rw [hb] at h; cases h
  | bad e p => rw [hb] at h; cases h
  | ok m t =>
    rw [hb] at h
    change (if (hdT t).kind = 0 then PR.ok m t else .bad 170 (hdT t).pos) = _ at h
    split at h
    · injection h with h1 h2
      subst h1 h2
      exact ⟨rfl, ‹_›⟩
    · cases h
theorem fn_head (G p : Nat) (Z : List Tok) : pFn (G + 3) (⟨2, [102, 110], 0, 0⟩ :: ⟨1, [102], 0, 3⟩ :: ⟨5, [40], 0, 4⟩ :: ⟨5, [41], 0, 5⟩ :: ⟨5, [123], 0, p⟩ :: Z) = ((pStmts (G + 2) 1 [] Z).bind fun l r => PR.ok (nodeP 4 [] l p) r).bind fun b r => PR.ok (N.mk 2 [102] V.zero false ([] ++ [b]) ((0 : Nat) : Int)) r := by
  have e4 : pRow (G + 3) 2 [41] 0 (⟨5, [41], 0, 5⟩ :: ⟨5, [123], 0, p⟩ :: Z) = .ok [] (⟨5, [123], 0, p⟩ :: Z) := by rw [pRow]; rfl
  have e3 : pBlock (G + 3) 0 (⟨5, [123], 0, p⟩ :: Z) = (pStmts (G + 2) 1 [] Z).bind fun l r => PR.ok (nodeP 4 [] l p) r := by rw [pBlock]; rfl
  unfold pFn
  change ((pRow (G + 3) 2 [41] 0 (⟨5, [41], 0, 5⟩ :: ⟨5, [123], 0, p⟩ :: Z)).bind fun l r => (pBlock (G + 3) 0 r).bind fun b r => PR.ok (N.mk 2 [102] V.zero false (l ++ [b]) ((0 : Nat) : Int)) r) = _
  rw [e4]
  change ((pBlock (G + 3) 0 (⟨5, [123], 0, p⟩ :: Z)).bind fun b r => PR.ok (N.mk 2 [102] V.zero false ([] ++ [b]) ((0 : Nat) : Int)) r) = _
  rw [e3]
theorem parse_pre (G : Nat) (Z : List Tok) : pFns (G + 4) [] (preT ++ Z) = (((((if isT [59] Z = true then pBare 9 [] 9 Z else pEnd G 1 9 [] 9 Z).bind fun n r => pStmts (G + 1) 1 ([] ++ [n]) r).bind fun l r => PR.ok (nodeP 4 [] l 7) r).bind fun b r => PR.ok (N.mk 2 [102] V.zero false ([] ++ [b]) ((0 : Nat) : Int)) r).bind fun n r => pFns (G + 3) ([] ++ [n]) r) := by
  have e1 : pStmt (G + 1) 1 (⟨2, [114, 101, 116, 117, 114, 110], 0, 9⟩ :: Z) = (if isT [59] Z = true then pBare 9 [] 9 Z else pEnd G 1 9 [] 9 Z) := by rw [pStmt]; rfl
  have e2 : pStmts (G + 2) 1 [] (⟨2, [114, 101, 116, 117, 114, 110], 0, 9⟩ :: Z) = (pStmt (G + 1) 1 (⟨2, [114, 101, 116, 117, 114, 110], 0, 9⟩ :: Z)).bind fun n r => pStmts (G + 1) 1 ([] ++ [n]) r := by rw [pStmts]; rfl
  change (pFn (G + 3) (preT ++ Z)).bind (fun n r => pFns (G + 3) ([] ++ [n]) r) = _
  change (pFn (G + 3) (⟨2, [102, 110], 0, 0⟩ :: ⟨1, [102], 0, 3⟩ :: ⟨5, [40], 0, 4⟩ :: ⟨5, [41], 0, 5⟩ :: ⟨5, [123], 0, 7⟩ :: ⟨2, [114, 101, 116, 117, 114, 110], 0, 9⟩ :: Z)).bind (fun n r => pFns (G + 3) ([] ++ [n]) r) = _
  rw [fn_head, e2, e1]
theorem parse_within {s : List UInt8} {n m : N} {p p' : Nat} (h : parseE s = (n, p, 0)) (h' : parseP (preB ++ s ++ [59, 32, 125]) = (m, p', 0)) :
    ∃ n', m = .mk 1 [] V.zero false [N.mk 2 [102] V.zero false [N.mk 4 [] V.zero false [N.mk 9 [] V.zero false [n'] 9] 7] 0] 0 ∧ eqN n n' = true := by
  obtain ⟨T, r, hT, hr⟩ := readS_ok top_ne0 (fun ts => (fine_top (by omega)).1) h
  obtain ⟨W, r', hW, hr'⟩ := readS_ok fns_ne0 (fun ts => (fine_fns (by omega)).1) h'
  obtain ⟨hp, hk⟩ := top_ok hr
  have hT0 : allRun (s.length + 1) s 0 [] = .ok T := by
    unfold allS at hT
    split at hT
    · cases hT
    · exact hT
  obtain ⟨u, pe, hTu, -, -, hu⟩ := run_bnd _ _ _ _ _ hT0
  rw [List.nil_append] at hTu
  obtain ⟨us, us', e1, e2, hS⟩ := run_shift _ _ _ _ _ hT0 16 preT
  rw [List.nil_append] at e1
  subst e1
  obtain ⟨ts, b, e3, e4⟩ := run_app sep_semi [32, 125] _ _ _ _ _ e2 (by omega)
  rw [List.append_assoc] at e3
  have e3 := List.append_cancel_left e3
  subst e3 hTu
  have hW0 : allFrom (s ++ 59 :: [32, 125]) 16 preT = .ok W := by
    unfold allS at hW
    split at hW
    · cases hW
    · rw [List.append_assoc, pre_lex] at hW
      exact hW
  rw [e4] at hW0
  obtain ⟨sm, q, hWe, hsm⟩ : ∃ sm q, W = preT ++ (ts ++ sm :: q) ∧ ((sm.kind = 5 ∧ sm.text = [59] ∧ ∃ a b, q = [⟨5, [125], 0, a⟩, ⟨0, [], 0, b⟩]) ∨ sm.kind = 0) := by
    generalize hP : 16 + s.length + ((59 :: [32, 125] : List UInt8).length - (skip b (59 :: [32, 125])).length) = P at hW0
    cases b with
    | false =>
      have e : allFrom (skip false (59 :: [32, 125])) P (preT ++ ts) = .ok (preT ++ ts ++ [⟨5, [59], 0, P⟩] ++ [⟨5, [125], 0, P + 1 + 1⟩] ++ [⟨0, [], 0, P + 1 + 1 + 1 + 0⟩]) := by rfl
      rw [e] at hW0
      injection hW0 with hW0
      exact ⟨_, _, by rw [← hW0]; simp only [List.append_assoc, List.singleton_append]; rfl, .inl ⟨rfl, rfl, _, _, rfl⟩⟩
    | true =>
      have e : allFrom (skip true (59 :: [32, 125])) P (preT ++ ts) = .ok (preT ++ ts ++ [⟨0, [], 0, P + 0⟩]) := by rfl
      rw [e] at hW0
      injection hW0 with hW0
      exact ⟨_, _, by rw [← hW0, List.append_assoc], .inr rfl⟩
  have hWn : Wn sm q (u ++ [⟨0, [], 0, pe⟩]) (ts ++ sm :: q) := wn_of rfl (by rcases hsm with h | h; exact .inl ⟨h.1, h.2.1⟩; exact .inr h) hS (fun t ht => by have := hu t ht; omega)
  generalize hTT : u ++ [(⟨0, [], 0, pe⟩ : Tok)] = TT at *
  generalize hZZ : ts ++ sm :: q = Z at *
  have hlen : TT.length ≤ Z.length := by
    have key : ∀ {a b : List Tok}, Wn sm q a b → a.length ≤ b.length := by
      intro a b h
      induction h with
      | stop _ _ => simp
      | step _ _ _ ih => simp only [List.length_cons]; omega
    exact key hWn
  obtain ⟨G, hG⟩ : ∃ G, 16 * W.length + 16 = G + 4 := ⟨16 * W.length + 12, by omega⟩
  have hGT : 16 * TT.length + 16 ≤ G := by
    have : W.length = 6 + Z.length := by rw [hWe]; simp; omega
    omega
  rw [hG, hWe, parse_pre] at hr'
  have hZ : isT [59] Z = false := by
    cases hx : isT [59] Z with
    | false => rfl
    | true =>
      exfalso
      refine (noE (ts := TT) ?_ _).bin _ _ _ _ hp
      cases hWn with
      | stop he hs => exact .inr he
      | step hs h0 hw => exact .inl (by rw [← isT_same hs]; exact hx)
  rw [if_neg (by rw [hZ]; simp)] at hr'
  have hp1 := PR.le_ok ((upE _ _ hGT).bin 1 0 TT) hp
  have hRW := (withE (sm := sm) (q := q) G).bin 1 0 TT Z (by omega) hWn
  rw [hp1] at hRW
  rcases hRW with ⟨pb, hb⟩ | ⟨n', t', hb, hn, hw⟩
  · unfold pEnd at hr'
    rw [hb] at hr'
    cases hr'
  · unfold pEnd at hr'
    rw [hb] at hr'
    cases hw with
    | step h1 h0 _ => exact absurd hk h0
    | stop he hs =>
      rcases hsm with ⟨k5, t59, a, b, rfl⟩ | k0
      · have hm : mustT [59] (sm :: [⟨5, [125], 0, a⟩, ⟨0, [], 0, b⟩]) = .ok sm [⟨5, [125], 0, a⟩, ⟨0, [], 0, b⟩] := by
          rw [mustT, if_pos (by unfold isT; simp [hdT, k5, t59])]
          rfl
        change (((((mustT [59] (sm :: [⟨5, [125], 0, a⟩, ⟨0, [], 0, b⟩])).bind fun _ r => PR.ok (nodeP 9 [] [n'] 9) r).bind fun n r => pStmts (G + 1) 1 ([] ++ [n]) r).bind fun l r => PR.ok (nodeP 4 [] l 7) r).bind fun b r => PR.ok (N.mk 2 [102] V.zero false ([] ++ [b]) ((0 : Nat) : Int)) r).bind (fun n r => pFns (G + 3) ([] ++ [n]) r) = _ at hr'
        rw [hm] at hr'
        have e9 : pStmts (G + 1) 1 ([] ++ [nodeP 9 [] [n'] 9]) [⟨5, [125], 0, a⟩, ⟨0, [], 0, b⟩] = .ok [nodeP 9 [] [n'] 9] [⟨0, [], 0, b⟩] := by rw [pStmts]; rfl
        change ((((pStmts (G + 1) 1 ([] ++ [nodeP 9 [] [n'] 9]) [⟨5, [125], 0, a⟩, ⟨0, [], 0, b⟩])).bind fun l r => PR.ok (nodeP 4 [] l 7) r).bind fun b r => PR.ok (N.mk 2 [102] V.zero false ([] ++ [b]) ((0 : Nat) : Int)) r).bind (fun n r => pFns (G + 3) ([] ++ [n]) r) = _ at hr'
        rw [e9] at hr'
        change PR.ok (N.mk 1 [] V.zero false [N.mk 2 [102] V.zero false [N.mk 4 [] V.zero false [N.mk 9 [] V.zero false [n'] ((9 : Nat) : Int)] ((7 : Nat) : Int)] ((0 : Nat) : Int)] ((0 : Nat) : Int)) [⟨0, [], 0, b⟩] = _ at hr'
        injection hr' with hr' _
        exact ⟨n', hr'.symm, hn⟩
      · exfalso
        have hm : mustT [59] (sm :: q) = .bad 170 sm.pos := by
          rw [mustT, if_neg (by unfold isT; simp [hdT, k0])]
          rfl
        change (((((mustT [59] (sm :: q)).bind fun _ r => PR.ok (nodeP 9 [] [n'] 9) r).bind fun n r => pStmts (G + 1) 1 ([] ++ [n]) r).bind fun l r => PR.ok (nodeP 4 [] l 7) r).bind fun b r => PR.ok (N.mk 2 [102] V.zero false ([] ++ [b]) ((0 : Nat) : Int)) r).bind (fun n r => pFns (G + 3) ([] ++ [n]) r) = _ at hr'
        rw [hm] at hr'
        cases hr'
end Go.Proofs.YtlnhhffhmeekoaaGreatDoor
