/- ParseDeep: 24 may be open, and no more. The plain law. ParseDeep: each way of opening. The plain law. ParseDeep: blocks. The plain law. -/
import Derived.Test.YtlnhhffhmeekoaaGreatDoorGParW
set_option linter.unusedVariables false
set_option linter.unusedSimpArgs false
namespace Go.Proofs.YtlnhhffhmeekoaaGreatDoor

/-- a text so many times -/
def repB (b : List UInt8) : Nat → List UInt8
  | 0 => []
  | n + 1 => repB b n ++ b
theorem repB_len (b : List UInt8) (n : Nat) : (repB b n).length = n * b.length := by
  induction n with
  | zero => simp [repB]
  | succ n ih => rw [repB, List.length_append, ih, Nat.succ_mul]
/-- its tokens, from a place on -/
def reps (mk : Nat → List Tok) (len n pos : Nat) : List Tok := (List.range n).flatMap fun i => mk (pos + i * len)
theorem reps_snoc (mk : Nat → List Tok) (len n pos : Nat) : reps mk len (n + 1) pos = reps mk len n pos ++ mk (pos + n * len) := by
  rw [reps, List.range_succ, List.flatMap_append]
  simp [reps]
theorem reps_cons (mk : Nat → List Tok) (len n pos : Nat) : reps mk len (n + 1) pos = mk pos ++ reps mk len n (pos + len) := by
  induction n with
  | zero => simp [reps]
  | succ n ih =>
    rw [reps_snoc, ih, reps_snoc, List.append_assoc]
    congr 3
    rw [Nat.succ_mul]
    omega
/-- a text is read as these tokens, whatever stands behind -/
def Lx (b : List UInt8) (mk : Nat → List Tok) : Prop := ∀ x pos acc, allFrom (b ++ x) pos acc = allFrom x (pos + b.length) (acc ++ mk pos)
theorem Lx.rep {b : List UInt8} {mk : Nat → List Tok} (h : Lx b mk) (n : Nat) : ∀ x pos acc, allFrom (repB b n ++ x) pos acc = allFrom x (pos + n * b.length) (acc ++ reps mk b.length n pos) := by
  induction n with
  | zero => intro x pos acc; simp [repB, reps]
  | succ n ih =>
    intro x pos acc
    rw [repB, List.append_assoc, ih, h, reps_snoc, List.append_assoc, Nat.succ_mul, Nat.add_assoc]
theorem Lx.app {a b : List UInt8} {f g : Nat → List Tok} (h : Lx a f) (h' : Lx b g) : Lx (a ++ b) (fun p => f p ++ g (p + a.length)) := fun x pos acc => by
  rw [List.append_assoc, h, h', List.append_assoc, List.length_append, Nat.add_assoc]
def one (t : Tok) : Nat → List Tok := fun p => [⟨t.kind, t.text, t.n, p⟩]
theorem lx_sign (c : UInt8) (h1 : isBlank c = false) (h2 : c.toNat ≠ 47) (h3 : isLetter c.toNat = false) (h4 : isDigit c.toNat = false) (h5 : c.toNat ≠ 34) (h6 : ∀ x, signS (c :: x) = [c]) : Lx [c] (fun p => [⟨5, [c], 0, p⟩]) := fun x pos acc => by
  refine (allFrom_tok (k := 5) (t := [c]) (n := 0) (m := 1) (by simp) ?_ ?_).trans (by simp)
  · simp only [List.singleton_append, skip, h1]
    rw [if_neg (by simp), if_neg (fun h => h2 h.1)]
  · show tokS (c :: x) = _
    unfold tokS
    simp only [List.headD_cons, h3, h4, if_neg h5, h6]
    simp
theorem lx_open : Lx [40] (fun p => [⟨5, [40], 0, p⟩]) := lx_sign _ rfl (by decide) rfl rfl (by decide) (fun x => by cases x <;> rfl)
theorem lx_shut : Lx [41] (fun p => [⟨5, [41], 0, p⟩]) := lx_sign _ rfl (by decide) rfl rfl (by decide) (fun x => by cases x <;> rfl)
theorem lx_lopen : Lx [91] (fun p => [⟨5, [91], 0, p⟩]) := lx_sign _ rfl (by decide) rfl rfl (by decide) (fun x => by cases x <;> rfl)
theorem lx_lshut : Lx [93] (fun p => [⟨5, [93], 0, p⟩]) := lx_sign _ rfl (by decide) rfl rfl (by decide) (fun x => by cases x <;> rfl)
theorem lx_bopen : Lx [123] (fun p => [⟨5, [123], 0, p⟩]) := lx_sign _ rfl (by decide) rfl rfl (by decide) (fun x => by cases x <;> rfl)
theorem lx_bshut : Lx [125] (fun p => [⟨5, [125], 0, p⟩]) := lx_sign _ rfl (by decide) rfl rfl (by decide) (fun x => by cases x <;> rfl)
theorem lx_colon : Lx [58] (fun p => [⟨5, [58], 0, p⟩]) := lx_sign _ rfl (by decide) rfl rfl (by decide) (fun x => by cases x <;> rfl)
theorem lx_minus : Lx [45] (fun p => [⟨5, [45], 0, p⟩]) := lx_sign _ rfl (by decide) rfl rfl (by decide) (fun x => by cases x <;> rfl)
/-- a word ahead of a sign -/
theorem lx_word (wd : List UInt8) (k : Nat) (c : UInt8) (f : Nat → List Tok) (h : Lx [c] f) (hne : wd ≠ []) (hs : ∀ x, skip false (wd ++ c :: x) = wd ++ c :: x) (ht : ∀ x, tokS (wd ++ c :: x) = .ok (k, wd, 0, wd.length)) : Lx (wd ++ [c]) (fun p => ⟨k, wd, 0, p⟩ :: f (p + wd.length)) := fun x pos acc => by
  rw [List.append_assoc]
  refine (allFrom_tok (k := k) (t := wd) (n := 0) (m := wd.length) (by simp [hne]) (hs x) (ht x)).trans ?_
  rw [List.drop_left]
  refine (h x _ _).trans ?_
  rw [List.length_append, Nat.add_assoc, List.append_assoc]
  rfl
theorem lx_fopen : Lx [102, 40] (fun p => [⟨1, [102], 0, p⟩, ⟨5, [40], 0, p + 1⟩]) := lx_word [102] 1 40 _ lx_open (by simp) (fun x => rfl) (fun x => rfl)
theorem lx_aopen : Lx [97, 91] (fun p => [⟨1, [97], 0, p⟩, ⟨5, [91], 0, p + 1⟩]) := lx_word [97] 1 91 _ lx_lopen (by simp) (fun x => rfl) (fun x => rfl)
theorem lx_acolon : Lx [97, 58] (fun p => [⟨1, [97], 0, p⟩, ⟨5, [58], 0, p + 1⟩]) := lx_word [97] 1 58 _ lx_colon (by simp) (fun x => rfl) (fun x => rfl)
theorem lx_ashut : Lx [97, 41] (fun p => [⟨1, [97], 0, p⟩, ⟨5, [41], 0, p + 1⟩]) := lx_word [97] 1 41 _ lx_shut (by simp) (fun x => rfl) (fun x => rfl)
theorem lx_pair : Lx [123, 97, 58] (fun p => [⟨5, [123], 0, p⟩, ⟨1, [97], 0, p + 1⟩, ⟨5, [58], 0, p + 1 + 1⟩]) := lx_bopen.app lx_acolon
theorem lx_wopen : Lx [119, 104, 105, 108, 101, 40] (fun p => [⟨2, [119, 104, 105, 108, 101], 0, p⟩, ⟨5, [40], 0, p + 5⟩]) := lx_word [119, 104, 105, 108, 101] 2 40 _ lx_open (by simp) (fun x => rfl) (fun x => rfl)
theorem lx_while : Lx [119, 104, 105, 108, 101, 40, 97, 41, 123] (fun p => [⟨2, [119, 104, 105, 108, 101], 0, p⟩, ⟨5, [40], 0, p + 5⟩] ++ ([⟨1, [97], 0, p + 6⟩, ⟨5, [41], 0, p + 6 + 1⟩] ++ [⟨5, [123], 0, p + 6 + 2⟩])) := lx_wopen.app (lx_ashut.app lx_bopen)
/-- the number one ahead of the ends -/
theorem lx_one (b : List UInt8) (hb : b = [] ∨ (∃ c, b = [c] ∧ ∀ x, tokS (49 :: c :: x) = .ok (3, [], 1, 1))) (n pos : Nat) (acc : List Tok) : allFrom (49 :: repB b n) pos acc = allFrom (repB b n) (pos + 1) (acc ++ [⟨3, [], 1, pos⟩]) := by
  have key : tokS (49 :: repB b n) = .ok (3, [], 1, 1) := by
    rcases hb with rfl | ⟨c, rfl, h⟩
    · have e : repB ([] : List UInt8) n = [] := by
        induction n with
        | zero => rfl
        | succ n ih => rw [repB, ih]; rfl
      rw [e]
      rfl
    · cases n with
      | zero => rfl
      | succ n =>
        have e : ∃ y, repB [c] (n + 1) = c :: y := by
          induction n with
          | zero => exact ⟨[], rfl⟩
          | succ n ih =>
            obtain ⟨y, hy⟩ := ih
            exact ⟨y ++ [c], by rw [repB, hy]; rfl⟩
        obtain ⟨y, hy⟩ := e
        rw [hy]
        exact h y
  refine (allFrom_tok (k := 3) (t := []) (n := 1) (m := 1) (by simp) (by rfl) key).trans ?_
  rfl
/-- the tokens of such a source -/
theorem deep_lex {a b : List UInt8} {mk en : Nat → List Tok} (ha : Lx a mk) (hen : Lx b en) (hb : b = [] ∨ (∃ c, b = [c] ∧ ∀ x, tokS (49 :: c :: x) = .ok (3, [], 1, 1))) (n : Nat) (hl : n * a.length + (1 + n * b.length) ≤ 8192) :
    ∃ P Q E, allS (repB a n ++ (49 :: repB b n)) = .ok (reps mk a.length n 0 ++ ⟨3, [], 1, P⟩ :: (reps en b.length n Q ++ [⟨0, [], 0, E⟩])) := by
  refine ⟨0 + n * a.length, 0 + n * a.length + 1, 0 + n * a.length + 1 + n * b.length, ?_⟩
  rw [allS, if_neg (by rw [List.length_append, List.length_cons, repB_len, repB_len]; omega), ha.rep, lx_one b hb]
  have := hen.rep n [] (0 + n * a.length + 1) ([] ++ reps mk a.length n 0 ++ [⟨3, [], 1, 0 + n * a.length⟩])
  rw [List.append_nil] at this
  rw [this, allFrom_end _ _ _ rfl]
  simp
/-! the parsing -/
/-- what ends an expression -/
structure Stop (r : List Tok) : Prop where
  at_ : isT [91] r = false
  dot : isT [46] r = false
  bind : bindT (hdT r) = 0
theorem out_ne {α : Type} {x : α} {t : List Tok} : (PR.out : PR α) ≠ .ok x t := by simp
theorem binUp {f k o : Nat} {ts r : List Tok} {n : N} (h : pBin f (k + 1) o ts = .ok n r) (hk : k ≤ 5) (hk1 : 1 ≤ k) (h0 : bindT (hdT r) = 0) : pBin (f + 1) k o ts = .ok n r := by
  rw [pBin, if_neg (by omega), h]
  cases f with
  | zero => rw [pBin] at h; cases h
  | succ f =>
    show pBinT (f + 1) k o n r = _
    rw [pBinT, if_neg (by omega)]
theorem binUp_bad {f k o e p : Nat} {ts : List Tok} (h : pBin f (k + 1) o ts = .bad e p) (hk : k ≤ 5) : pBin (f + 1) k o ts = .bad e p := by
  rw [pBin, if_neg (by omega), h]
  rfl
theorem un_ok {f o : Nat} {ts r : List Tok} {n : N} (h : pUn f o ts = .ok n r) (h0 : bindT (hdT r) = 0) : pBin (f + 6) 1 o ts = .ok n r := by
  have h6 : pBin (f + 1) 6 o ts = .ok n r := by rw [pBin, if_pos (by omega)]; exact h
  exact binUp (binUp (binUp (binUp (binUp h6 (by omega) (by omega) h0) (by omega) (by omega) h0) (by omega) (by omega) h0) (by omega) (by omega) h0) (by omega) (by omega) h0
theorem un_bad {f o e p : Nat} {ts : List Tok} (h : pUn f o ts = .bad e p) : pBin (f + 6) 1 o ts = .bad e p := by
  have h6 : pBin (f + 1) 6 o ts = .bad e p := by rw [pBin, if_pos (by omega)]; exact h
  exact binUp_bad (binUp_bad (binUp_bad (binUp_bad (binUp_bad h6 (by omega)) (by omega)) (by omega)) (by omega)) (by omega)
theorem post_any {f o : Nat} {ts : List Tok} (h1 : isT [45] ts = false) (h2 : isT [33] ts = false) : pUn (f + 1) o ts = pPost f o ts := by
  rw [pUn, if_neg (by rw [h1, h2]; simp)]
theorem prim_ok {f o : Nat} {ts r : List Tok} {n : N} (h : pPrim f o ts = .ok n r) (hs : Stop r) : pPost (f + 1) o ts = .ok n r := by
  rw [pPost, h]
  cases f with
  | zero => rw [pPrim] at h; cases h
  | succ f =>
    show pPostT (f + 1) o n r = _
    rw [pPostT, if_neg (by rw [hs.at_]; simp), if_neg (by rw [hs.dot]; simp)]
theorem prim_bad {f o e p : Nat} {ts : List Tok} (h : pPrim f o ts = .bad e p) : pPost (f + 1) o ts = .bad e p := by
  rw [pPost, h]
  rfl
theorem lift_ok {f o : Nat} {ts r : List Tok} {n : N} (h : pPrim f o ts = .ok n r) (hs : Stop r) (h1 : isT [45] ts = false) (h2 : isT [33] ts = false) : pBin (f + 8) 1 o ts = .ok n r :=
  un_ok (f := f + 2) (by rw [post_any h1 h2]; exact prim_ok h hs) hs.bind
theorem lift_bad {f o e p : Nat} {ts : List Tok} (h : pPrim f o ts = .bad e p) (h1 : isT [45] ts = false) (h2 : isT [33] ts = false) : pBin (f + 8) 1 o ts = .bad e p :=
  un_bad (f := f + 2) (by rw [post_any h1 h2]; exact prim_bad h)
/-- one way of opening: how it is read -/
structure Way (mk en : Nat → List Tok) (off : Nat) : Prop where
  stop : ∀ p rest, Stop rest → Stop (en p ++ rest)
  ok : ∀ o pos q inner rest f x, o < 24 → isT [41] inner = false → isT [93] inner = false → isT [125] inner = false → Stop rest → pBin f 1 (o + 1) inner = .ok x (en q ++ rest) → ∃ f' x', pBin f' 1 o (mk pos ++ inner) = .ok x' rest
  bad : ∀ o pos inner f e p, o < 24 → isT [41] inner = false → isT [93] inner = false → isT [125] inner = false → pBin f 1 (o + 1) inner = .bad e p → ∃ f', pBin f' 1 o (mk pos ++ inner) = .bad e p
  deep : ∀ pos inner, ∃ f', pBin f' 1 24 (mk pos ++ inner) = .bad 171 (pos + off)
  head : ∀ pos inner, isT [41] (mk pos ++ inner) = false ∧ isT [93] (mk pos ++ inner) = false ∧ isT [125] (mk pos ++ inner) = false
theorem head_deep {mk en : Nat → List Tok} {off : Nat} (W : Way mk en off) (n len pos P : Nat) (rest : List Tok) : isT [41] (reps mk len n pos ++ ⟨3, [], 1, P⟩ :: rest) = false ∧ isT [93] (reps mk len n pos ++ ⟨3, [], 1, P⟩ :: rest) = false ∧ isT [125] (reps mk len n pos ++ ⟨3, [], 1, P⟩ :: rest) = false := by
  cases n with
  | zero => exact ⟨rfl, rfl, rfl⟩
  | succ n =>
    rw [reps_cons, List.append_assoc]
    exact W.head _ _
theorem deep_ok {mk en : Nat → List Tok} {off : Nat} (W : Way mk en off) (len elen : Nat) : ∀ (n o pos P Q : Nat) (rest : List Tok), o + n ≤ 24 → Stop rest → ∃ f x, pBin f 1 o (reps mk len n pos ++ ⟨3, [], 1, P⟩ :: (reps en elen n Q ++ rest)) = .ok x rest
  | 0, o, pos, P, Q, rest, _, hs => ⟨1 + 8, _, lift_ok (f := 1) (ts := ⟨3, [], 1, P⟩ :: rest) (r := rest) (by rw [pPrim]; rfl) hs (by rfl) (by rfl)⟩
  | n + 1, o, pos, P, Q, rest, h, hs => by
    rw [reps_cons, reps_snoc, List.append_assoc, List.append_assoc]
    obtain ⟨f, x, hx⟩ := deep_ok W len elen n (o + 1) (pos + len) P Q (en (Q + n * elen) ++ rest) (by omega) (W.stop _ _ hs)
    obtain ⟨h1, h2, h3⟩ := head_deep W n len (pos + len) P (reps en elen n Q ++ (en (Q + n * elen) ++ rest))
    exact W.ok o pos _ _ rest f x (by omega) h1 h2 h3 hs hx
theorem deep_bad {mk en : Nat → List Tok} {off : Nat} (W : Way mk en off) (len : Nat) : ∀ (n o pos P : Nat) (rest : List Tok), o ≤ 24 → 24 < o + n → ∃ f, pBin f 1 o (reps mk len n pos ++ ⟨3, [], 1, P⟩ :: rest) = .bad 171 (pos + (24 - o) * len + off)
  | 0, o, pos, P, rest, h, h' => by omega
  | n + 1, o, pos, P, rest, h, h' => by
    rw [reps_cons, List.append_assoc]
    by_cases ho : o = 24
    · subst ho
      obtain ⟨f, hf⟩ := W.deep pos (reps mk len n (pos + len) ++ ⟨3, [], 1, P⟩ :: rest)
      exact ⟨f, by rw [hf]; simp⟩
    · obtain ⟨f, hf⟩ := deep_bad W len n (o + 1) (pos + len) P rest (by omega) (by omega)
      obtain ⟨h1, h2, h3⟩ := head_deep W n len (pos + len) P rest
      obtain ⟨f', hf'⟩ := W.bad o pos _ f _ _ (by omega) h1 h2 h3 hf
      refine ⟨f', hf'.trans ?_⟩
      congr 1
      rw [show 24 - o = 24 - (o + 1) + 1 by omega, Nat.succ_mul]
      omega
theorem bin_any {f g : Nat} {ts : List Tok} {r : PR N} (h : pBin f 1 0 ts = r) (hr : r ≠ .out) (hg : pBin g 1 0 ts ≠ .out) : pBin g 1 0 ts = r := by
  by_cases hfg : f ≤ g
  · rw [← h]
    exact PR.le_eq ((upE _ _ hfg).bin 1 0 ts) (by rw [h]; exact hr)
  · rw [← h]
    exact (PR.le_eq ((upE _ _ (by omega)).bin 1 0 ts) hg).symm
theorem end_stop (E : Nat) : Stop [⟨0, [], 0, E⟩] := ⟨rfl, rfl, rfl⟩
theorem deep_top0 {a b : List UInt8} {mk en : Nat → List Tok} {off : Nat} (hok : ∀ n P Q rest, n ≤ 24 → Stop rest → ∃ f x, pBin f 1 0 (reps mk a.length n 0 ++ ⟨3, [], 1, P⟩ :: (reps en b.length n Q ++ rest)) = .ok x rest)
    (hbad : ∀ n P rest, 24 < n → ∃ f, pBin f 1 0 (reps mk a.length n 0 ++ ⟨3, [], 1, P⟩ :: rest) = .bad 171 (24 * a.length + off)) (ha : Lx a mk) (hen : Lx b en) (hb : b = [] ∨ (∃ c, b = [c] ∧ ∀ x, tokS (49 :: c :: x) = .ok (3, [], 1, 1))) (n : Nat) (hl : n * a.length + (1 + n * b.length) ≤ 8192) :
    (n ≤ 24 → ∃ x, parseE (repB a n ++ (49 :: repB b n)) = (x, 0, 0)) ∧ (24 < n → parseE (repB a n ++ (49 :: repB b n)) = (zeroN, 24 * a.length + off, 171)) := by
  obtain ⟨P, Q, E, hA⟩ := deep_lex ha hen hb n hl
  unfold parseE readS
  rw [hA]
  generalize hT : reps mk a.length n 0 ++ ⟨3, [], 1, P⟩ :: (reps en b.length n Q ++ [⟨0, [], 0, E⟩]) = T
  have hne : pBin (16 * T.length + 16) 1 0 T ≠ .out := fun e => (fine_top (f := 16 * T.length + 16) (ts := T) (by omega)).1 (by rw [pExprTop, e]; rfl)
  refine ⟨fun hn => ?_, fun hn => ?_⟩
  · obtain ⟨f, x, hx⟩ := hok n P Q [⟨0, [], 0, E⟩] hn (end_stop E)
    rw [hT] at hx
    have h1 := bin_any hx (by simp) hne
    refine ⟨x, ?_⟩
    have h2 : pExprTop (16 * T.length + 16) T = .ok x [⟨0, [], 0, E⟩] := by rw [pExprTop, h1]; rfl
    simp only [h2]
  · obtain ⟨f, hf⟩ := hbad n P (reps en b.length n Q ++ [⟨0, [], 0, E⟩]) hn
    rw [hT] at hf
    have h1 := bin_any hf (by simp) hne
    have h2 : pExprTop (16 * T.length + 16) T = .bad 171 (24 * a.length + off) := by rw [pExprTop, h1]; rfl
    simp only [h2]
theorem deep_top {a b : List UInt8} {mk en : Nat → List Tok} {off : Nat} (W : Way mk en off) (ha : Lx a mk) (hen : Lx b en) (hb : b = [] ∨ (∃ c, b = [c] ∧ ∀ x, tokS (49 :: c :: x) = .ok (3, [], 1, 1))) (n : Nat) (hl : n * a.length + (1 + n * b.length) ≤ 8192) :
    (n ≤ 24 → ∃ x, parseE (repB a n ++ (49 :: repB b n)) = (x, 0, 0)) ∧ (24 < n → parseE (repB a n ++ (49 :: repB b n)) = (zeroN, 24 * a.length + off, 171)) :=
  deep_top0 (fun n P Q rest hn hs => deep_ok W a.length b.length n 0 0 P Q rest (by omega) hs) (fun n P rest hn => by
    have := deep_bad W a.length n 0 0 P rest (by omega) (by omega)
    simpa using this) ha hen hb n hl
end Go.Proofs.YtlnhhffhmeekoaaGreatDoor
namespace Go.Proofs.YtlnhhffhmeekoaaGreatDoor

abbrev mkS (c : UInt8) : Nat → List Tok := fun p => [⟨5, [c], 0, p⟩]
theorem must_hd (c : UInt8) (q : Nat) (rest : List Tok) : mustT [c] (mkS c q ++ rest) = .ok ⟨5, [c], 0, q⟩ rest := by
  rw [mustT, if_pos (by unfold isT; simp [hdT])]
  rfl
theorem stop_shut (c : UInt8) (h : c = 41 ∨ c = 93 ∨ c = 125) (p : Nat) (rest : List Tok) : Stop (mkS c p ++ rest) := by
  rcases h with rfl | rfl | rfl <;> exact ⟨rfl, rfl, rfl⟩
theorem way_group : Way (mkS 40) (mkS 41) 0 where
  stop p rest _ := stop_shut 41 (by simp) p rest
  ok o pos q inner rest f x ho _ _ _ hs h := by
    refine ⟨f + 1 + 8, x, lift_ok (f := f + 1) (ts := mkS 40 pos ++ inner) ?_ hs (by rfl) (by rfl)⟩
    have : pPrim (f + 1) o (mkS 40 pos ++ inner) = opensT o (mkS 40 pos ++ inner) fun r => (pBin f 1 (o + 1) r).bind fun n r => (mustT [41] r).bind fun _ r => .ok n r := by rw [pPrim]; rfl
    rw [this, opensT, if_neg (by omega)]
    change ((pBin f 1 (o + 1) inner).bind fun n r => (mustT [41] r).bind fun _ r => PR.ok n r) = _
    rw [h]
    change ((mustT [41] (mkS 41 q ++ rest)).bind fun _ r => PR.ok x r) = _
    rw [must_hd]
    rfl
  bad o pos inner f e p ho _ _ _ h := by
    refine ⟨f + 1 + 8, lift_bad (f := f + 1) (ts := mkS 40 pos ++ inner) ?_ (by rfl) (by rfl)⟩
    have : pPrim (f + 1) o (mkS 40 pos ++ inner) = opensT o (mkS 40 pos ++ inner) fun r => (pBin f 1 (o + 1) r).bind fun n r => (mustT [41] r).bind fun _ r => .ok n r := by rw [pPrim]; rfl
    rw [this, opensT, if_neg (by omega)]
    change ((pBin f 1 (o + 1) inner).bind fun n r => (mustT [41] r).bind fun _ r => PR.ok n r) = _
    rw [h]
    rfl
  deep pos inner := ⟨1 + 8, lift_bad (f := 1) (ts := mkS 40 pos ++ inner) (by rw [pPrim]; rfl) (by rfl) (by rfl)⟩
  head pos inner := ⟨rfl, rfl, rfl⟩
/-- a row of one expression -/
theorem row_one {f o q : Nat} {c : UInt8} {inner rest : List Tok} {x : N} (hc : c = 41 ∨ c = 93) (hi : isT [c] inner = false) (h : pBin f 1 o inner = .ok x (mkS c q ++ rest)) : pRow (f + 3) 0 [c] o inner = .ok [x] rest := by
  rw [pRow, if_neg (by rw [hi]; simp), pRowT, pItem, if_pos rfl, h]
  change (if isT [44] (mkS c q ++ rest) = true then pRowT (f + 1) 0 [c] o ([] ++ [x]) (mkS c q ++ rest).tail else (mustT [c] (mkS c q ++ rest)).bind fun _ r => PR.ok ([] ++ [x]) r) = _
  rw [if_neg (by rcases hc with rfl | rfl <;> exact Bool.false_ne_true), must_hd]
  rfl
theorem row_bad {f o e p : Nat} {c : UInt8} {inner : List Tok} (hi : isT [c] inner = false) (h : pBin f 1 o inner = .bad e p) : pRow (f + 3) 0 [c] o inner = .bad e p := by
  rw [pRow, if_neg (by rw [hi]; simp), pRowT, pItem, if_pos rfl, h]
  rfl
theorem way_list : Way (mkS 91) (mkS 93) 0 where
  stop p rest _ := stop_shut 93 (by simp) p rest
  ok o pos q inner rest f x ho _ h93 _ hs h := by
    refine ⟨f + 4 + 8, _, lift_ok (f := f + 4) (ts := mkS 91 pos ++ inner) (n := nodeP 18 [] [x] pos) ?_ hs (by rfl) (by rfl)⟩
    have : pPrim (f + 4) o (mkS 91 pos ++ inner) = opensT o (mkS 91 pos ++ inner) fun r => (pRow (f + 3) 0 [93] (o + 1) r).bind fun l r => .ok (nodeP 18 [] l pos) r := by rw [pPrim]; rfl
    rw [this, opensT, if_neg (by omega)]
    change ((pRow (f + 3) 0 [93] (o + 1) inner).bind fun l r => PR.ok (nodeP 18 [] l pos) r) = _
    rw [row_one (by simp) h93 h]
    rfl
  bad o pos inner f e p ho _ h93 _ h := by
    refine ⟨f + 4 + 8, lift_bad (f := f + 4) (ts := mkS 91 pos ++ inner) ?_ (by rfl) (by rfl)⟩
    have : pPrim (f + 4) o (mkS 91 pos ++ inner) = opensT o (mkS 91 pos ++ inner) fun r => (pRow (f + 3) 0 [93] (o + 1) r).bind fun l r => .ok (nodeP 18 [] l pos) r := by rw [pPrim]; rfl
    rw [this, opensT, if_neg (by omega)]
    change ((pRow (f + 3) 0 [93] (o + 1) inner).bind fun l r => PR.ok (nodeP 18 [] l pos) r) = _
    rw [row_bad h93 h]
    rfl
  deep pos inner := ⟨1 + 8, lift_bad (f := 1) (ts := mkS 91 pos ++ inner) (by rw [pPrim]; rfl) (by rfl) (by rfl)⟩
  head pos inner := ⟨rfl, rfl, rfl⟩
abbrev mkP : Nat → List Tok := fun p => [⟨5, [123], 0, p⟩, ⟨1, [97], 0, p + 1⟩, ⟨5, [58], 0, p + 1 + 1⟩]
theorem way_fields : Way mkP (mkS 125) 0 where
  stop p rest _ := stop_shut 125 (by simp) p rest
  ok o pos q inner rest f x ho _ _ _ hs h := by
    refine ⟨f + 4 + 8, _, lift_ok (f := f + 4) (ts := mkP pos ++ inner) (n := nodeP 19 [] [nodeP 20 [97] [x] (pos + 1)] pos) ?_ hs (by rfl) (by rfl)⟩
    have : pPrim (f + 4) o (mkP pos ++ inner) = opensT o (mkP pos ++ inner) fun r => (pRow (f + 3) 1 [125] (o + 1) r).bind fun l r => .ok (nodeP 19 [] l pos) r := by rw [pPrim]; rfl
    rw [this, opensT, if_neg (by omega)]
    have e : pRow (f + 3) 1 [125] (o + 1) (mkP pos ++ inner).tail = ((pBin f 1 (o + 1) inner).bind fun n r => PR.ok (nodeP 20 [97] [n] (pos + 1)) r).bind fun n r => if isT [44] r = true then pRowT (f + 1) 1 [125] (o + 1) ([] ++ [n]) r.tail else (mustT [125] r).bind fun _ r => .ok ([] ++ [n]) r := by
      rw [pRow]
      change pRowT (f + 2) 1 [125] (o + 1) [] (mkP pos ++ inner).tail = _
      rw [pRowT, pItem]
      rfl
    rw [e, h]
    change ((mustT [125] (mkS 125 q ++ rest)).bind fun _ r => PR.ok ([] ++ [nodeP 20 [97] [x] (pos + 1)]) r).bind (fun l r => PR.ok (nodeP 19 [] l pos) r) = _
    rw [must_hd]
    rfl
  bad o pos inner f e p ho _ _ _ h := by
    refine ⟨f + 4 + 8, lift_bad (f := f + 4) (ts := mkP pos ++ inner) ?_ (by rfl) (by rfl)⟩
    have : pPrim (f + 4) o (mkP pos ++ inner) = opensT o (mkP pos ++ inner) fun r => (pRow (f + 3) 1 [125] (o + 1) r).bind fun l r => .ok (nodeP 19 [] l pos) r := by rw [pPrim]; rfl
    rw [this, opensT, if_neg (by omega)]
    have e : pRow (f + 3) 1 [125] (o + 1) (mkP pos ++ inner).tail = ((pBin f 1 (o + 1) inner).bind fun n r => PR.ok (nodeP 20 [97] [n] (pos + 1)) r).bind fun n r => if isT [44] r = true then pRowT (f + 1) 1 [125] (o + 1) ([] ++ [n]) r.tail else (mustT [125] r).bind fun _ r => .ok ([] ++ [n]) r := by
      rw [pRow]
      change pRowT (f + 2) 1 [125] (o + 1) [] (mkP pos ++ inner).tail = _
      rw [pRowT, pItem]
      rfl
    rw [e, h]
    rfl
  deep pos inner := ⟨1 + 8, lift_bad (f := 1) (ts := mkP pos ++ inner) (by rw [pPrim]; rfl) (by rfl) (by rfl)⟩
  head pos inner := ⟨rfl, rfl, rfl⟩
abbrev mkC : Nat → List Tok := fun p => [⟨1, [102], 0, p⟩, ⟨5, [40], 0, p + 1⟩]
theorem way_call : Way mkC (mkS 41) 1 where
  stop p rest _ := stop_shut 41 (by simp) p rest
  ok o pos q inner rest f x ho h41 _ _ hs h := by
    refine ⟨f + 4 + 8, _, lift_ok (f := f + 4) (ts := mkC pos ++ inner) (n := nodeP 15 [102] [x] pos) ?_ hs (by rfl) (by rfl)⟩
    have : pPrim (f + 4) o (mkC pos ++ inner) = opensT o (mkS 40 (pos + 1) ++ inner) fun r => (pRow (f + 3) 0 [41] (o + 1) r).bind fun l r => .ok (nodeP 15 [102] l pos) r := by rw [pPrim]; rfl
    rw [this, opensT, if_neg (by omega)]
    change ((pRow (f + 3) 0 [41] (o + 1) inner).bind fun l r => PR.ok (nodeP 15 [102] l pos) r) = _
    rw [row_one (by simp) h41 h]
    rfl
  bad o pos inner f e p ho h41 _ _ h := by
    refine ⟨f + 4 + 8, lift_bad (f := f + 4) (ts := mkC pos ++ inner) ?_ (by rfl) (by rfl)⟩
    have : pPrim (f + 4) o (mkC pos ++ inner) = opensT o (mkS 40 (pos + 1) ++ inner) fun r => (pRow (f + 3) 0 [41] (o + 1) r).bind fun l r => .ok (nodeP 15 [102] l pos) r := by rw [pPrim]; rfl
    rw [this, opensT, if_neg (by omega)]
    change ((pRow (f + 3) 0 [41] (o + 1) inner).bind fun l r => PR.ok (nodeP 15 [102] l pos) r) = _
    rw [row_bad h41 h]
    rfl
  deep pos inner := ⟨1 + 8, lift_bad (f := 1) (ts := mkC pos ++ inner) (by rw [pPrim]; rfl) (by rfl) (by rfl)⟩
  head pos inner := ⟨rfl, rfl, rfl⟩
abbrev mkA : Nat → List Tok := fun p => [⟨1, [97], 0, p⟩, ⟨5, [91], 0, p + 1⟩]
theorem at_eq (f o pos : Nat) (inner : List Tok) : pUn (f + 3) o (mkA pos ++ inner) = opensT o (mkS 91 (pos + 1) ++ inner) fun r => (pBin f 1 (o + 1) r).bind fun m r => (mustT [93] r).bind fun _ r => pPostT f o (nodeP 21 [] [nodeP 14 [97] [] pos, m] (pos + 1)) r := by
  have e : pPrim (f + 1) o (mkA pos ++ inner) = .ok (nodeP 14 [97] [] pos) (mkS 91 (pos + 1) ++ inner) := by rw [pPrim]; rfl
  rw [post_any (by rfl) (by rfl), pPost, e]
  change pPostT (f + 1) o (nodeP 14 [97] [] pos) (mkS 91 (pos + 1) ++ inner) = _
  rw [pPostT]
  rfl
theorem way_at : Way mkA (mkS 93) 1 where
  stop p rest _ := stop_shut 93 (by simp) p rest
  ok o pos q inner rest f x ho _ _ _ hs h := by
    refine ⟨f + 3 + 6, nodeP 21 [] [nodeP 14 [97] [] pos, x] (pos + 1), un_ok (f := f + 3) (ts := mkA pos ++ inner) ?_ hs.bind⟩
    rw [at_eq, opensT, if_neg (by omega)]
    change ((pBin f 1 (o + 1) inner).bind fun m r => (mustT [93] r).bind fun _ r => pPostT f o (nodeP 21 [] [nodeP 14 [97] [] pos, m] (pos + 1)) r) = _
    rw [h]
    change ((mustT [93] (mkS 93 q ++ rest)).bind fun _ r => pPostT f o (nodeP 21 [] [nodeP 14 [97] [] pos, x] (pos + 1)) r) = _
    rw [must_hd]
    cases f with
    | zero => rw [pBin] at h; cases h
    | succ f =>
      show pPostT (f + 1) o (nodeP 21 [] [nodeP 14 [97] [] pos, x] (pos + 1)) rest = _
      rw [pPostT, if_neg (by rw [hs.at_]; simp), if_neg (by rw [hs.dot]; simp)]
  bad o pos inner f e p ho _ _ _ h := by
    refine ⟨f + 3 + 6, un_bad (f := f + 3) (ts := mkA pos ++ inner) ?_⟩
    rw [at_eq, opensT, if_neg (by omega)]
    change ((pBin f 1 (o + 1) inner).bind fun m r => (mustT [93] r).bind fun _ r => pPostT f o (nodeP 21 [] [nodeP 14 [97] [] pos, m] (pos + 1)) r) = _
    rw [h]
    rfl
  deep pos inner := ⟨0 + 3 + 6, un_bad (f := 0 + 3) (ts := mkA pos ++ inner) (by rw [at_eq]; rfl)⟩
  head pos inner := ⟨rfl, rfl, rfl⟩
theorem minus_ok : ∀ (n o pos P : Nat) (rest : List Tok), o + n ≤ 24 → Stop rest → ∃ f x, pUn f o (reps (mkS 45) 1 n pos ++ ⟨3, [], 1, P⟩ :: rest) = .ok x rest
  | 0, o, pos, P, rest, _, hs => ⟨1 + 1 + 1, _, by
      have e : pUn (1 + 1 + 1) o (⟨3, [], 1, P⟩ :: rest) = pPost (1 + 1) o (⟨3, [], 1, P⟩ :: rest) := post_any (by rfl) (by rfl)
      exact e.trans (prim_ok (f := 1) (n := litP (.mk 2 ((1 : Nat) : Int) [] [] []) P) (by rw [pPrim]; rfl) hs)⟩
  | n + 1, o, pos, P, rest, h, hs => by
    obtain ⟨f, x, hx⟩ := minus_ok n (o + 1) (pos + 1) P rest (by omega) hs
    rw [reps_cons, List.append_assoc]
    have e : pUn (f + 1) o (mkS 45 pos ++ (reps (mkS 45) 1 n (pos + 1) ++ ⟨3, [], 1, P⟩ :: rest)) = opensT o (mkS 45 pos ++ (reps (mkS 45) 1 n (pos + 1) ++ ⟨3, [], 1, P⟩ :: rest)) fun r => (pUn f (o + 1) r).bind fun n r => .ok (nodeP 16 [45] [n] pos) r := by rw [pUn]; rfl
    refine ⟨f + 1, nodeP 16 [45] [x] pos, ?_⟩
    rw [e, opensT, if_neg (by omega)]
    change ((pUn f (o + 1) (reps (mkS 45) 1 n (pos + 1) ++ ⟨3, [], 1, P⟩ :: rest)).bind fun n r => PR.ok (nodeP 16 [45] [n] pos) r) = _
    rw [hx]
    rfl
theorem minus_bad : ∀ (n o pos P : Nat) (rest : List Tok), o ≤ 24 → 24 < o + n → ∃ f, pUn f o (reps (mkS 45) 1 n pos ++ ⟨3, [], 1, P⟩ :: rest) = .bad 171 (pos + (24 - o))
  | 0, o, pos, P, rest, h, h' => by omega
  | n + 1, o, pos, P, rest, h, h' => by
    rw [reps_cons, List.append_assoc]
    by_cases ho : o = 24
    · subst ho
      exact ⟨1, by rw [pUn]; rfl⟩
    · obtain ⟨f, hf⟩ := minus_bad n (o + 1) (pos + 1) P rest (by omega) (by omega)
      have e : pUn (f + 1) o (mkS 45 pos ++ (reps (mkS 45) 1 n (pos + 1) ++ ⟨3, [], 1, P⟩ :: rest)) = opensT o (mkS 45 pos ++ (reps (mkS 45) 1 n (pos + 1) ++ ⟨3, [], 1, P⟩ :: rest)) fun r => (pUn f (o + 1) r).bind fun n r => .ok (nodeP 16 [45] [n] pos) r := by rw [pUn]; rfl
      refine ⟨f + 1, ?_⟩
      rw [e, opensT, if_neg (by omega)]
      change ((pUn f (o + 1) (reps (mkS 45) 1 n (pos + 1) ++ ⟨3, [], 1, P⟩ :: rest)).bind fun n r => PR.ok (nodeP 16 [45] [n] pos) r) = _
      rw [hf]
      show PR.bad 171 _ = _
      congr 1
      omega
theorem reps_nil (len n pos : Nat) : reps (fun _ => []) len n pos = [] := by simp [reps]
theorem one_end (c : UInt8) (h : c = 41 ∨ c = 93 ∨ c = 125) (x : List UInt8) : tokS (49 :: c :: x) = .ok (3, [], 1, 1) := by
  rcases h with rfl | rfl | rfl <;> rfl
theorem lx_nil : Lx [] (fun _ => []) := fun x pos acc => by simp
/-- of brackets so many: what an expression is read as, or where too many are open -/
abbrev DeepP (a b : List UInt8) (n pl : Nat) : Prop := (n ≤ 24 → ∃ x, parseE (repB a n ++ (49 :: repB b n)) = (x, 0, 0)) ∧ (24 < n → parseE (repB a n ++ (49 :: repB b n)) = (zeroN, pl, 171))
theorem deep_group (n : Nat) (hn : n ≤ 200) : DeepP [40] [41] n 24 := deep_top way_group lx_open lx_shut (.inr ⟨41, rfl, one_end 41 (by simp)⟩) n (by simp; omega)
theorem deep_list (n : Nat) (hn : n ≤ 200) : DeepP [91] [93] n 24 := deep_top way_list lx_lopen lx_lshut (.inr ⟨93, rfl, one_end 93 (by simp)⟩) n (by simp; omega)
theorem deep_fields (n : Nat) (hn : n ≤ 200) : DeepP [123, 97, 58] [125] n 72 := deep_top way_fields lx_pair lx_bshut (.inr ⟨125, rfl, one_end 125 (by simp)⟩) n (by simp; omega)
theorem deep_call (n : Nat) (hn : n ≤ 200) : DeepP [102, 40] [41] n 49 := deep_top way_call lx_fopen lx_shut (.inr ⟨41, rfl, one_end 41 (by simp)⟩) n (by simp; omega)
theorem deep_at (n : Nat) (hn : n ≤ 200) : DeepP [97, 91] [93] n 49 := deep_top way_at lx_aopen lx_lshut (.inr ⟨93, rfl, one_end 93 (by simp)⟩) n (by simp; omega)
theorem deep_minus (n : Nat) (hn : n ≤ 200) : DeepP [45] [] n 24 := deep_top0 (a := [45]) (b := []) (off := 0) (fun n P Q rest hn hs => by
    obtain ⟨f, x, hx⟩ := minus_ok n 0 0 P rest (by omega) hs
    rw [reps_nil]
    exact ⟨f + 6, x, un_ok hx hs.bind⟩) (fun n P rest hn => by
    obtain ⟨f, hf⟩ := minus_bad n 0 0 P rest (by omega) (by omega)
    exact ⟨f + 6, un_bad (by simpa using hf)⟩) lx_minus lx_nil (.inl rfl) n (by simp; omega)
end Go.Proofs.YtlnhhffhmeekoaaGreatDoor
namespace Go.Proofs.YtlnhhffhmeekoaaGreatDoor

def mkW : Nat → List Tok := fun p => [⟨2, [119, 104, 105, 108, 101], 0, p⟩, ⟨5, [40], 0, p + 5⟩] ++ ([⟨1, [97], 0, p + 6⟩, ⟨5, [41], 0, p + 6 + 1⟩] ++ [⟨5, [123], 0, p + 6 + 2⟩])
abbrev whB : List UInt8 := [119, 104, 105, 108, 101, 40, 97, 41, 123]
theorem cond_a (F o pos : Nat) (inner : List Tok) : pCond (F + 9) o (mkW pos ++ inner).tail = .ok (nodeP 14 [97] [] (pos + 6)) (⟨5, [123], 0, pos + 6 + 2⟩ :: inner) := by
  have h : pBin (1 + 8) 1 o (⟨1, [97], 0, pos + 6⟩ :: ⟨5, [41], 0, pos + 6 + 1⟩ :: ⟨5, [123], 0, pos + 6 + 2⟩ :: inner) = .ok (nodeP 14 [97] [] (pos + 6)) (⟨5, [41], 0, pos + 6 + 1⟩ :: ⟨5, [123], 0, pos + 6 + 2⟩ :: inner) :=
    lift_ok (f := 1) (by rw [pPrim]; rfl) ⟨by rfl, by rfl, by rfl⟩ (by rfl) (by rfl)
  have h := PR.le_ok ((upE (1 + 8) (F + 9) (by omega)).bin _ _ _) h
  unfold pCond
  change ((pBin (F + 9) 1 o (⟨1, [97], 0, pos + 6⟩ :: ⟨5, [41], 0, pos + 6 + 1⟩ :: ⟨5, [123], 0, pos + 6 + 2⟩ :: inner)).bind fun n r => (mustT [41] r).bind fun _ r => PR.ok n r) = _
  rw [h]
  rfl
theorem stmt_w (F o pos : Nat) (inner : List Tok) : pStmts (F + 11) o [] (mkW pos ++ inner) = ((opensT o (⟨5, [123], 0, pos + 6 + 2⟩ :: inner) fun r => (pStmts (F + 8) (o + 1) [] r).bind fun l r => .ok (nodeP 4 [] l (pos + 6 + 2)) r).bind fun b r => PR.ok (nodeP 8 [] [nodeP 14 [97] [] (pos + 6), b] pos) r).bind fun n r => pStmts (F + 10) o ([] ++ [n]) r := by
  have e : pStmts (F + 11) o [] (mkW pos ++ inner) = ((pCond (F + 9) o (mkW pos ++ inner).tail).bind fun c r => (pBlock (F + 9) o r).bind fun b r => PR.ok (nodeP 8 [] [c, b] pos) r).bind fun n r => pStmts (F + 10) o ([] ++ [n]) r := by
    rw [pStmts]
    change (pStmt (F + 10) o (mkW pos ++ inner)).bind (fun n r => pStmts (F + 10) o ([] ++ [n]) r) = _
    rw [pStmt]
    rfl
  have e2 : pBlock (F + 9) o (⟨5, [123], 0, pos + 6 + 2⟩ :: inner) = opensT o (⟨5, [123], 0, pos + 6 + 2⟩ :: inner) fun r => (pStmts (F + 8) (o + 1) [] r).bind fun l r => .ok (nodeP 4 [] l (pos + 6 + 2)) r := by rw [pBlock]; rfl
  rw [e, cond_a, ← e2]
  rfl
theorem whiles_ok : ∀ (n o pos Q R : Nat) (rest : List Tok), o + n ≤ 24 → ∃ f l, pStmts f o [] (reps mkW 9 n pos ++ (reps (mkS 125) 1 n Q ++ (⟨5, [125], 0, R⟩ :: rest))) = .ok l rest
  | 0, o, pos, Q, R, rest, _ => ⟨1, [], by rw [pStmts]; rfl⟩
  | n + 1, o, pos, Q, R, rest, h => by
    obtain ⟨f, l, hl⟩ := whiles_ok n (o + 1) (pos + 9) Q (Q + n * 1) (⟨5, [125], 0, R⟩ :: rest) (by omega)
    rw [reps_cons, reps_snoc, List.append_assoc, List.append_assoc]
    have h8 := PR.le_ok ((upS f (f + 8) (by omega)).stmts _ _ _) hl
    refine ⟨f + 11, [nodeP 8 [] [nodeP 14 [97] [] (pos + 6), nodeP 4 [] l (pos + 6 + 2)] pos], ?_⟩
    rw [stmt_w, opensT, if_neg (by omega)]
    change ((((pStmts (f + 8) (o + 1) [] (reps mkW 9 n (pos + 9) ++ (reps (mkS 125) 1 n Q ++ (⟨5, [125], 0, Q + n * 1⟩ :: ⟨5, [125], 0, R⟩ :: rest)))).bind fun l r => PR.ok (nodeP 4 [] l (pos + 6 + 2)) r).bind fun b r => PR.ok (nodeP 8 [] [nodeP 14 [97] [] (pos + 6), b] pos) r).bind fun n r => pStmts (f + 10) o ([] ++ [n]) r) = _
    rw [h8]
    change pStmts (f + 10) o [nodeP 8 [] [nodeP 14 [97] [] (pos + 6), nodeP 4 [] l (pos + 6 + 2)] pos] (⟨5, [125], 0, R⟩ :: rest) = _
    rw [pStmts]
    rfl
theorem whiles_bad : ∀ (n o pos : Nat) (rest : List Tok), o ≤ 24 → 24 < o + n → ∃ f p, pStmts f o [] (reps mkW 9 n pos ++ rest) = .bad 171 p
  | 0, o, pos, rest, h, h' => by omega
  | n + 1, o, pos, rest, h, h' => by
    rw [reps_cons, List.append_assoc]
    by_cases ho : o = 24
    · subst ho
      refine ⟨0 + 11, pos + 6 + 2, ?_⟩
      rw [stmt_w, opensT, if_pos rfl]
      rfl
    · obtain ⟨f, p, hf⟩ := whiles_bad n (o + 1) (pos + 9) rest (by omega) (by omega)
      have h8 := PR.le_bad ((upS f (f + 8) (by omega)).stmts _ _ _) hf
      refine ⟨f + 11, p, ?_⟩
      rw [stmt_w, opensT, if_neg (by omega)]
      change ((((pStmts (f + 8) (o + 1) [] (reps mkW 9 n (pos + 9) ++ rest)).bind fun l r => PR.ok (nodeP 4 [] l (pos + 6 + 2)) r).bind fun b r => PR.ok (nodeP 8 [] [nodeP 14 [97] [] (pos + 6), b] pos) r).bind fun n r => pStmts (f + 10) o ([] ++ [n]) r) = _
      rw [h8]
      rfl
theorem stm_any {f g : Nat} {o : Nat} {ts : List Tok} {r : PR (List N)} (h : pStmts f o [] ts = r) (hr : r ≠ .out) (hg : pStmts g o [] ts ≠ .out) : pStmts g o [] ts = r := by
  by_cases hfg : f ≤ g
  · rw [← h]
    exact PR.le_eq ((upS _ _ hfg).stmts o [] ts) (by rw [h]; exact hr)
  · rw [← h]
    exact (PR.le_eq ((upS _ _ (by omega)).stmts o [] ts) hg).symm
abbrev fnB : List UInt8 := [102, 110, 32, 102, 40, 41, 123]
abbrev fnHd : List Tok := [⟨2, [102, 110], 0, 0⟩, ⟨1, [102], 0, 3⟩, ⟨5, [40], 0, 4⟩, ⟨5, [41], 0, 5⟩, ⟨5, [123], 0, 6⟩]
theorem fn_lex (x : List UInt8) : allFrom (fnB ++ x) 0 [] = allFrom x 7 fnHd := by
  refine Eq.trans (allFrom_tok (k := 2) (t := [102, 110]) (n := 0) (m := 2) (by simp) (by rfl) (by rfl)) ?_
  refine Eq.trans (allFrom_sp (102 :: 40 :: 41 :: 123 :: x) 2 _) ?_
  refine Eq.trans (allFrom_tok (k := 1) (t := [102]) (n := 0) (m := 1) (by simp) (by rfl) (by rfl)) ?_
  exact (lx_open.app (lx_shut.app lx_bopen)) x 4 _
theorem parse_fn (G : Nat) (Z : List Tok) : pFns (G + 4) [] (fnHd ++ Z) = (((pStmts (G + 2) 1 [] Z).bind fun l r => PR.ok (nodeP 4 [] l 6) r).bind fun b r => PR.ok (N.mk 2 [102] V.zero false ([] ++ [b]) ((0 : Nat) : Int)) r).bind fun n r => pFns (G + 3) ([] ++ [n]) r := by
  change (pFn (G + 3) (⟨2, [102, 110], 0, 0⟩ :: ⟨1, [102], 0, 3⟩ :: ⟨5, [40], 0, 4⟩ :: ⟨5, [41], 0, 5⟩ :: ⟨5, [123], 0, 6⟩ :: Z)).bind (fun n r => pFns (G + 3) ([] ++ [n]) r) = _
  rw [fn_head]
theorem deep_while (n : Nat) (hn : n ≤ 200) : (n + 1 ≤ 24 → ∃ x, parseP (fnB ++ (repB whB n ++ (repB [125] n ++ [125]))) = (x, 0, 0)) ∧ (24 < n + 1 → ∃ p, parseP (fnB ++ (repB whB n ++ (repB [125] n ++ [125]))) = (zeroN, p, 171)) := by
  obtain ⟨Q, R, E, hA⟩ : ∃ Q R E, allS (fnB ++ (repB whB n ++ (repB [125] n ++ [125]))) = .ok (fnHd ++ (reps mkW 9 n 7 ++ (reps (mkS 125) 1 n Q ++ [⟨5, [125], 0, R⟩, ⟨0, [], 0, E⟩]))) := by
    refine ⟨7 + n * 9, 7 + n * 9 + n * 1, 7 + n * 9 + n * 1 + 1, ?_⟩
    rw [allS, if_neg (by simp [repB_len]; omega), fn_lex]
    have h1 := (show Lx whB mkW from lx_while).rep n (repB [125] n ++ [125]) 7 fnHd
    refine h1.trans ?_
    refine (lx_bshut.rep n [125] _ _).trans ?_
    refine (lx_bshut [] _ _).trans ?_
    refine (allFrom_end _ _ _ rfl).trans ?_
    simp
  unfold parseP readS
  rw [hA]
  generalize hZ : reps mkW 9 n 7 ++ (reps (mkS 125) 1 n Q ++ [⟨5, [125], 0, R⟩, ⟨0, [], 0, E⟩]) = Z
  obtain ⟨G, hG⟩ : ∃ G, 16 * (fnHd ++ Z).length + 16 = G + 4 := ⟨16 * (fnHd ++ Z).length + 12, by omega⟩
  have hfine := (fine_fns (f := 16 * (fnHd ++ Z).length + 16) (acc := []) (ts := fnHd ++ Z) (by omega)).1
  rw [hG] at hfine
  simp only [hG]
  rw [parse_fn] at hfine ⊢
  have hne : pStmts (G + 2) 1 [] Z ≠ .out := fun e => hfine (by rw [e]; rfl)
  refine ⟨fun h => ?_, fun h => ?_⟩
  · obtain ⟨f, l, hl⟩ := whiles_ok n 1 7 Q R [⟨0, [], 0, E⟩] (by omega)
    rw [hZ] at hl
    rw [stm_any hl (by simp) hne]
    exact ⟨_, rfl⟩
  · obtain ⟨f, p, hf⟩ := whiles_bad n 1 7 (reps (mkS 125) 1 n Q ++ [⟨5, [125], 0, R⟩, ⟨0, [], 0, E⟩]) (by omega) (by omega)
    rw [hZ] at hf
    rw [stm_any hf (by simp) hne]
    exact ⟨p, rfl⟩
end Go.Proofs.YtlnhhffhmeekoaaGreatDoor
