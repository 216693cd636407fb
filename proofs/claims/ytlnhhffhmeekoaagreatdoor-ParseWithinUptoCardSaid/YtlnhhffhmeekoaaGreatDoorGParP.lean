/- What parse reads: the plain words (trees of tokens, with fuel). Plain definitions; no program in sight. The reader's fuel: more of it changes nothing; sixteen a token are enough. Plain facts. What holds of the tokens that a reading leaves, and of the place of its fault. Plain facts. Two readings of tokens that share a beginning do alike up to its last token. Plain facts. -/
import Derived.Test.YtlnhhffhmeekoaaGreatDoorLexTokSpec
import Derived.Test.YtlnhhffhmeekoaaGreatDoorNode
set_option linter.unusedVariables false
set_option linter.unusedSimpArgs false
namespace Go.Proofs.YtlnhhffhmeekoaaGreatDoor

/-- what a piece of reading comes to: the fuel ran out; a fault's number and place; what was read, and the tokens behind it -/
inductive PR (α : Type) where
  | out
  | bad (e p : Nat)
  | ok (x : α) (ts : List Tok)
def PR.bind {α β : Type} (r : PR α) (k : α → List Tok → PR β) : PR β :=
  match r with
  | .out => .out
  | .bad e p => .bad e p
  | .ok x ts => k x ts
/-- the next token -/
def hdT (ts : List Tok) : Tok := ts.headD ⟨0, [], 0, 0⟩
/-- is it this sign or keyword? -/
def isT (s : List UInt8) (ts : List Tok) : Bool := (decide ((hdT ts).kind = 5) || decide ((hdT ts).kind = 2)) && decide ((hdT ts).text = s)
def mustT (s : List UInt8) (ts : List Tok) : PR Tok := if isT s ts = true then .ok (hdT ts) ts.tail else .bad 170 (hdT ts).pos
def nameT (ts : List Tok) : PR Tok := if (hdT ts).kind = 1 then .ok (hdT ts) ts.tail else .bad 170 (hdT ts).pos
def opensT {α : Type} (o : Nat) (ts : List Tok) (k : List Tok → PR α) : PR α := if o = 24 then .bad 171 (hdT ts).pos else k ts.tail
abbrev nodeP (k : Int) (t : List UInt8) (l : List N) (p : Nat) : N := .mk k t V.zero false l (p : Int)
abbrev litP (v : V) (p : Nat) : N := .mk 13 [] v false [] (p : Int)
/-- how much a sign binds -/
def bindT (t : Tok) : Nat :=
  if t.kind = 5 then
    if t.text = [124, 124] then 1 else if t.text = [38, 38] then 2
    else if t.text = [61, 61] ∨ t.text = [33, 61] ∨ t.text = [60] ∨ t.text = [60, 61] ∨ t.text = [62] ∨ t.text = [62, 61] then 3
    else if t.text = [43] ∨ t.text = [45] then 4 else if t.text = [42] ∨ t.text = [47] ∨ t.text = [37] then 5 else 0
  else 0
/-- is the next statement a Set? -/
def setsT (ts : List Tok) : Bool := decide ((hdT ts).kind = 1) && (decide ((hdT ts.tail).kind = 5) && decide ((hdT ts.tail).text = [61]))
mutual
/-- an expression whose signs bind at least so much -/
def pBin : Nat → Nat → Nat → List Tok → PR N
  | 0, _, _, _ => .out
  | f + 1, k, o, ts => if 5 < k then pUn f o ts else (pBin f (k + 1) o ts).bind fun n r => pBinT f k o n r
/-- .. behind its first part -/
def pBinT : Nat → Nat → Nat → N → List Tok → PR N
  | 0, _, _, _, _ => .out
  | f + 1, k, o, n, ts =>
    if bindT (hdT ts) = k then (pBin f (k + 1) o ts.tail).bind fun m r =>
      if k = 3 then .ok (nodeP 17 (hdT ts).text [n, m] (hdT ts).pos) r else pBinT f k o (nodeP 17 (hdT ts).text [n, m] (hdT ts).pos) r
    else .ok n ts
def pUn : Nat → Nat → List Tok → PR N
  | 0, _, _ => .out
  | f + 1, o, ts =>
    if isT [45] ts = true ∨ isT [33] ts = true then opensT o ts fun r => (pUn f (o + 1) r).bind fun n r => .ok (nodeP 16 (hdT ts).text [n] (hdT ts).pos) r
    else pPost f o ts
def pPost : Nat → Nat → List Tok → PR N
  | 0, _, _ => .out
  | f + 1, o, ts => (pPrim f o ts).bind fun n r => pPostT f o n r
def pPostT : Nat → Nat → N → List Tok → PR N
  | 0, _, _, _ => .out
  | f + 1, o, n, ts =>
    if isT [91] ts = true then opensT o ts fun r => (pBin f 1 (o + 1) r).bind fun m r => (mustT [93] r).bind fun _ r => pPostT f o (nodeP 21 [] [n, m] (hdT ts).pos) r
    else if isT [46] ts = true then (nameT ts.tail).bind fun t r => pPostT f o (nodeP 22 t.text [n] (hdT ts).pos) r
    else .ok n ts
/-- what stands lowest -/
def pPrim : Nat → Nat → List Tok → PR N
  | 0, _, _ => .out
  | f + 1, o, ts =>
    if (hdT ts).kind = 3 then .ok (litP (.mk 2 ((hdT ts).n : Int) [] [] []) (hdT ts).pos) ts.tail
    else if (hdT ts).kind = 4 then .ok (litP (.mk 3 0 (hdT ts).text [] []) (hdT ts).pos) ts.tail
    else if isT [116, 114, 117, 101] ts = true then .ok (litP (.mk 1 1 [] [] []) (hdT ts).pos) ts.tail
    else if isT [102, 97, 108, 115, 101] ts = true then .ok (litP (.mk 1 0 [] [] []) (hdT ts).pos) ts.tail
    else if isT [117, 110, 105, 116] ts = true then .ok (litP V.zero (hdT ts).pos) ts.tail
    else if (hdT ts).kind = 1 then
      if isT [40] ts.tail = true then opensT o ts.tail fun r => (pRow f 0 [41] (o + 1) r).bind fun l r => .ok (nodeP 15 (hdT ts).text l (hdT ts).pos) r
      else .ok (nodeP 14 (hdT ts).text [] (hdT ts).pos) ts.tail
    else if isT [40] ts = true then opensT o ts fun r => (pBin f 1 (o + 1) r).bind fun n r => (mustT [41] r).bind fun _ r => .ok n r
    else if isT [91] ts = true then opensT o ts fun r => (pRow f 0 [93] (o + 1) r).bind fun l r => .ok (nodeP 18 [] l (hdT ts).pos) r
    else if isT [123] ts = true then opensT o ts fun r => (pRow f 1 [125] (o + 1) r).bind fun l r => .ok (nodeP 19 [] l (hdT ts).pos) r
    else .bad 170 (hdT ts).pos
/-- things with commas between, up to an end (0: expressions, 1: pairs, 2: parameters) -/
def pRow : Nat → Nat → List UInt8 → Nat → List Tok → PR (List N)
  | 0, _, _, _, _ => .out
  | f + 1, c, e, o, ts => if isT e ts = true then .ok [] ts.tail else pRowT f c e o [] ts
def pRowT : Nat → Nat → List UInt8 → Nat → List N → List Tok → PR (List N)
  | 0, _, _, _, _, _ => .out
  | f + 1, c, e, o, acc, ts => (pItem f c o ts).bind fun n r =>
    if isT [44] r = true then pRowT f c e o (acc ++ [n]) r.tail else (mustT e r).bind fun _ r => .ok (acc ++ [n]) r
def pItem : Nat → Nat → Nat → List Tok → PR N
  | 0, _, _, _ => .out
  | f + 1, c, o, ts =>
    if c = 0 then pBin f 1 o ts
    else if c = 1 then
      if ((hdT ts).kind = 1 ∨ (hdT ts).kind = 4) ∧ (hdT ts).text.length ≤ 32 then
        (mustT [58] ts.tail).bind fun _ r => (pBin f 1 o r).bind fun n r => .ok (nodeP 20 (hdT ts).text [n] (hdT ts).pos) r
      else .bad 170 (hdT ts).pos
    else (nameT ts).bind fun t r => .ok (nodeP 3 t.text [] t.pos) r
end
/-- in brackets -/
def pCond (f o : Nat) (ts : List Tok) : PR N := (mustT [40] ts).bind fun _ r => (pBin f 1 o r).bind fun n r => (mustT [41] r).bind fun _ r => .ok n r
/-- a statement's expression, and its end -/
def pEnd (f o : Nat) (k : Int) (t : List UInt8) (p : Nat) (ts : List Tok) : PR N := (pBin f 1 o ts).bind fun n r => (mustT [59] r).bind fun _ r => .ok (nodeP k t [n] p) r
def pBare (k : Int) (t : List UInt8) (p : Nat) (ts : List Tok) : PR N := (mustT [59] ts).bind fun _ r => .ok (nodeP k t [] p) r
mutual
def pBlock : Nat → Nat → List Tok → PR N
  | 0, _, _ => .out
  | f + 1, o, ts => if isT [123] ts = true then opensT o ts fun r => (pStmts f (o + 1) [] r).bind fun l r => .ok (nodeP 4 [] l (hdT ts).pos) r else .bad 170 (hdT ts).pos
def pStmts : Nat → Nat → List N → List Tok → PR (List N)
  | 0, _, _, _ => .out
  | f + 1, o, acc, ts => if isT [125] ts = true then .ok acc ts.tail else (pStmt f o ts).bind fun n r => pStmts f o (acc ++ [n]) r
def pStmt : Nat → Nat → List Tok → PR N
  | 0, _, _ => .out
  | f + 1, o, ts =>
    if isT [108, 101, 116] ts = true then (nameT ts.tail).bind fun t r => if isT [61] r = true then pEnd f o 5 t.text (hdT ts).pos r.tail else pBare 5 t.text (hdT ts).pos r
    else if isT [105, 102] ts = true then pIf f o ts
    else if isT [119, 104, 105, 108, 101] ts = true then (pCond f o ts.tail).bind fun c r => (pBlock f o r).bind fun b r => .ok (nodeP 8 [] [c, b] (hdT ts).pos) r
    else if isT [114, 101, 116, 117, 114, 110] ts = true then if isT [59] ts.tail = true then pBare 9 [] (hdT ts).pos ts.tail else pEnd f o 9 [] (hdT ts).pos ts.tail
    else if isT [98, 114, 101, 97, 107] ts = true then pBare 10 [] (hdT ts).pos ts.tail
    else if isT [99, 111, 110, 116, 105, 110, 117, 101] ts = true then pBare 11 [] (hdT ts).pos ts.tail
    else if setsT ts = true then pEnd f o 6 (hdT ts).text (hdT ts).pos ts.tail.tail
    else pEnd f o 12 [] (hdT ts).pos ts
def pIf : Nat → Nat → List Tok → PR N
  | 0, _, _ => .out
  | f + 1, o, ts => (pCond f o ts.tail).bind fun c r => (pBlock f o r).bind fun b r =>
    if isT [101, 108, 115, 101] r = true then
      if isT [105, 102] r.tail = true then (pIf f o r.tail).bind fun x r => .ok (nodeP 7 [] [c, b, x] (hdT ts).pos) r
      else (pBlock f o r.tail).bind fun x r => .ok (nodeP 7 [] [c, b, x] (hdT ts).pos) r
    else .ok (nodeP 7 [] [c, b] (hdT ts).pos) r
end
def pFn (f : Nat) (ts : List Tok) : PR N :=
  (mustT [102, 110] (if isT [101, 120, 112, 111, 114, 116] ts = true then ts.tail else ts)).bind fun _ r => (nameT r).bind fun t r => (mustT [40] r).bind fun _ r =>
    (pRow f 2 [41] 0 r).bind fun l r => (pBlock f 0 r).bind fun b r => .ok (.mk 2 t.text V.zero (isT [101, 120, 112, 111, 114, 116] ts) (l ++ [b]) ((hdT ts).pos : Int)) r
def pFns : Nat → List N → List Tok → PR N
  | 0, _, _ => .out
  | f + 1, acc, ts => if (hdT ts).kind = 0 then .ok (nodeP 1 [] acc 0) ts else (pFn f ts).bind fun n r => pFns f (acc ++ [n]) r
def pExprTop (f : Nat) (ts : List Tok) : PR N := (pBin f 1 0 ts).bind fun n r => if (hdT r).kind = 0 then .ok n r else .bad 170 (hdT r).pos
abbrev zeroN : N := .mk 0 [] V.zero false [] 0
/-- what a source reads as: the tree, a fault's place, its number -/
def readS (all : Nat → List Tok → PR N) (s : List UInt8) : N × Nat × Nat :=
  match allS s with
  | .error (p, e) => (zeroN, p, e)
  | .ok ts => match all (16 * ts.length + 16) ts with
    | .ok n _ => (n, 0, 0)
    | .bad e p => (zeroN, p, e)
    | .out => (zeroN, 0, 0)
def parseP (s : List UInt8) : N × Nat × Nat := readS (fun f ts => pFns f [] ts) s
def parseE (s : List UInt8) : N × Nat × Nat := readS pExprTop s
end Go.Proofs.YtlnhhffhmeekoaaGreatDoor
namespace Go.Proofs.YtlnhhffhmeekoaaGreatDoor

def PR.le {α : Type} (r r' : PR α) : Prop := r = .out ∨ r = r'
theorem PR.le_refl {α : Type} (r : PR α) : r.le r := .inr rfl
theorem PR.out_le {α : Type} (r : PR α) : PR.le .out r := .inl rfl
theorem PR.bind_le {α β : Type} {r r' : PR α} {k k' : α → List Tok → PR β} (h : r.le r') (hk : ∀ x ts, (k x ts).le (k' x ts)) : (r.bind k).le (r'.bind k') := by
  rcases h with rfl | rfl
  · exact .inl rfl
  · cases r with
    | out => exact .inl rfl
    | bad e p => exact .inr rfl
    | ok x ts => exact hk x ts
theorem opens_le {α : Type} {o : Nat} {ts : List Tok} {k k' : List Tok → PR α} (hk : ∀ r, (k r).le (k' r)) : (opensT o ts k).le (opensT o ts k') := by
  unfold opensT
  split
  · exact .inr rfl
  · exact hk _
theorem ite_le {α : Type} {c : Prop} [Decidable c] {a a' b b' : PR α} (h : a.le a') (h' : b.le b') : PR.le (if c then a else b) (if c then a' else b') := by
  split
  · exact h
  · exact h'
structure UpE (f g : Nat) : Prop where
  bin : ∀ k o ts, (pBin f k o ts).le (pBin g k o ts)
  binT : ∀ k o n ts, (pBinT f k o n ts).le (pBinT g k o n ts)
  un : ∀ o ts, (pUn f o ts).le (pUn g o ts)
  post : ∀ o ts, (pPost f o ts).le (pPost g o ts)
  postT : ∀ o n ts, (pPostT f o n ts).le (pPostT g o n ts)
  prim : ∀ o ts, (pPrim f o ts).le (pPrim g o ts)
  row : ∀ c e o ts, (pRow f c e o ts).le (pRow g c e o ts)
  rowT : ∀ c e o acc ts, (pRowT f c e o acc ts).le (pRowT g c e o acc ts)
  item : ∀ c o ts, (pItem f c o ts).le (pItem g c o ts)
theorem upE : ∀ f g, f ≤ g → UpE f g
  | 0, g, h => ⟨fun _ _ _ => by rw [pBin]; exact .inl rfl, fun _ _ _ _ => by rw [pBinT]; exact .inl rfl, fun _ _ => by rw [pUn]; exact .inl rfl, fun _ _ => by rw [pPost]; exact .inl rfl, fun _ _ _ => by rw [pPostT]; exact .inl rfl,
      fun _ _ => by rw [pPrim]; exact .inl rfl, fun _ _ _ _ => by rw [pRow]; exact .inl rfl, fun _ _ _ _ _ => by rw [pRowT]; exact .inl rfl, fun _ _ _ => by rw [pItem]; exact .inl rfl⟩
  | f + 1, 0, h => by omega
  | f + 1, g + 1, h => by
    have ih := upE f g (by omega)
    constructor
    · intro k o ts; simp only [pBin]
      exact ite_le (ih.un _ _) (PR.bind_le (ih.bin _ _ _) fun _ _ => ih.binT _ _ _ _)
    · intro k o n ts; simp only [pBinT]
      exact ite_le (PR.bind_le (ih.bin _ _ _) fun _ _ => ite_le (PR.le_refl _) (ih.binT _ _ _ _)) (PR.le_refl _)
    · intro o ts; simp only [pUn]
      exact ite_le (opens_le fun _ => PR.bind_le (ih.un _ _) fun _ _ => PR.le_refl _) (ih.post _ _)
    · intro o ts; simp only [pPost]
      exact PR.bind_le (ih.prim _ _) fun _ _ => ih.postT _ _ _
    · intro o n ts; simp only [pPostT]
      exact ite_le (opens_le fun _ => PR.bind_le (ih.bin _ _ _) fun _ _ => PR.bind_le (PR.le_refl _) fun _ _ => ih.postT _ _ _) (ite_le (PR.bind_le (PR.le_refl _) fun _ _ => ih.postT _ _ _) (PR.le_refl _))
    · intro o ts; simp only [pPrim]
      repeat' (first | exact PR.le_refl _ | (refine ite_le ?_ ?_))
      · exact PR.bind_le (ih.row _ _ _ _) fun _ _ => PR.le_refl _
      · exact PR.bind_le (ih.bin _ _ _) fun _ _ => PR.le_refl _
      · exact PR.bind_le (ih.row _ _ _ _) fun _ _ => PR.le_refl _
      · exact PR.bind_le (ih.row _ _ _ _) fun _ _ => PR.le_refl _
    · intro c e o ts; simp only [pRow]
      exact ite_le (PR.le_refl _) (ih.rowT _ _ _ _ _)
    · intro c e o acc ts; simp only [pRowT]
      exact PR.bind_le (ih.item _ _ _) fun _ _ => ite_le (ih.rowT _ _ _ _ _) (PR.le_refl _)
    · intro c o ts; simp only [pItem]
      exact ite_le (ih.bin _ _ _) (ite_le (ite_le (PR.bind_le (PR.le_refl _) fun _ _ => PR.bind_le (ih.bin _ _ _) fun _ _ => PR.le_refl _) (PR.le_refl _)) (PR.le_refl _))
theorem cond_le {f g : Nat} (h : f ≤ g) (o : Nat) (ts : List Tok) : (pCond f o ts).le (pCond g o ts) :=
  PR.bind_le (PR.le_refl _) fun _ _ => PR.bind_le ((upE f g h).bin _ _ _) fun _ _ => PR.le_refl _
theorem end_le {f g : Nat} (h : f ≤ g) (o : Nat) (k : Int) (t : List UInt8) (p : Nat) (ts : List Tok) : (pEnd f o k t p ts).le (pEnd g o k t p ts) :=
  PR.bind_le ((upE f g h).bin _ _ _) fun _ _ => PR.le_refl _
structure UpS (f g : Nat) : Prop where
  block : ∀ o ts, (pBlock f o ts).le (pBlock g o ts)
  stmts : ∀ o acc ts, (pStmts f o acc ts).le (pStmts g o acc ts)
  stmt : ∀ o ts, (pStmt f o ts).le (pStmt g o ts)
  iff : ∀ o ts, (pIf f o ts).le (pIf g o ts)
theorem upS : ∀ f g, f ≤ g → UpS f g
  | 0, g, h => ⟨fun _ _ => by rw [pBlock]; exact .inl rfl, fun _ _ _ => by rw [pStmts]; exact .inl rfl, fun _ _ => by rw [pStmt]; exact .inl rfl, fun _ _ => by rw [pIf]; exact .inl rfl⟩
  | f + 1, 0, h => by omega
  | f + 1, g + 1, h => by
    have ih := upS f g (by omega)
    have hc := fun o ts => cond_le (show f ≤ g by omega) o ts
    have he := fun o k t p ts => end_le (show f ≤ g by omega) o k t p ts
    constructor
    · intro o ts; simp only [pBlock]
      exact ite_le (opens_le fun _ => PR.bind_le (ih.stmts _ _ _) fun _ _ => PR.le_refl _) (PR.le_refl _)
    · intro o acc ts; simp only [pStmts]
      exact ite_le (PR.le_refl _) (PR.bind_le (ih.stmt _ _) fun _ _ => ih.stmts _ _ _)
    · intro o ts; simp only [pStmt]
      repeat' (first | exact PR.le_refl _ | exact he _ _ _ _ _ | exact ih.iff _ _ | (refine ite_le ?_ ?_))
      · exact PR.bind_le (PR.le_refl _) fun _ _ => ite_le (he _ _ _ _ _) (PR.le_refl _)
      · exact PR.bind_le (hc _ _) fun _ _ => PR.bind_le (ih.block _ _) fun _ _ => PR.le_refl _
    · intro o ts; simp only [pIf]
      exact PR.bind_le (hc _ _) fun _ _ => PR.bind_le (ih.block _ _) fun _ _ => ite_le (ite_le (PR.bind_le (ih.iff _ _) fun _ _ => PR.le_refl _) (PR.bind_le (ih.block _ _) fun _ _ => PR.le_refl _)) (PR.le_refl _)
theorem fn_le {f g : Nat} (h : f ≤ g) (ts : List Tok) : (pFn f ts).le (pFn g ts) :=
  PR.bind_le (PR.le_refl _) fun _ _ => PR.bind_le (PR.le_refl _) fun _ _ => PR.bind_le (PR.le_refl _) fun _ _ => PR.bind_le ((upE f g h).row _ _ _ _) fun _ _ => PR.bind_le ((upS f g h).block _ _) fun _ _ => PR.le_refl _
theorem fns_le : ∀ {f g : Nat} (h : f ≤ g) (acc : List N) (ts : List Tok), (pFns f acc ts).le (pFns g acc ts)
  | 0, g, h, acc, ts => by rw [pFns]; exact .inl rfl
  | f + 1, 0, h, acc, ts => by omega
  | f + 1, g + 1, h, acc, ts => by
    simp only [pFns]
    exact ite_le (PR.le_refl _) (PR.bind_le (fn_le (by omega) _) fun _ _ => fns_le (by omega) _ _)
theorem top_le {f g : Nat} (h : f ≤ g) (ts : List Tok) : (pExprTop f ts).le (pExprTop g ts) := PR.bind_le ((upE f g h).bin _ _ _) fun _ _ => PR.le_refl _

/-! enough fuel -/
/-- it comes to an end, and leaves fewer than n tokens -/
def PR.fine {α : Type} (r : PR α) (n : Nat) : Prop := r ≠ .out ∧ ∀ x ts, r = .ok x ts → ts.length < n
theorem fine_bad {α : Type} (e p n : Nat) : PR.fine (α := α) (.bad e p) n := ⟨by simp, by simp⟩
theorem fine_ok {α : Type} {x : α} {ts : List Tok} {n : Nat} (h : ts.length < n) : PR.fine (.ok x ts) n := ⟨by simp, by rintro _ _ h'; injection h' with _ h'; subst h'; exact h⟩
theorem fine_mono {α : Type} {r : PR α} {n m : Nat} (h : r.fine n) (hm : n ≤ m) : r.fine m := ⟨h.1, fun x ts e => Nat.lt_of_lt_of_le (h.2 x ts e) hm⟩
theorem fine_bind {α β : Type} {r : PR α} {k : α → List Tok → PR β} {n m : Nat} (h : r.fine n) (hk : ∀ x ts, ts.length < n → (k x ts).fine m) : (r.bind k).fine m := by
  cases r with
  | out => exact absurd rfl h.1
  | bad e p => exact fine_bad _ _ _
  | ok x ts => exact hk x ts (h.2 x ts rfl)
theorem fine_ite {α : Type} {c : Prop} [Decidable c] {a b : PR α} {n : Nat} (h : c → a.fine n) (h' : ¬ c → b.fine n) : PR.fine (if c then a else b) n := by
  split
  · exact h ‹_›
  · exact h' ‹_›
theorem len_pos_of_kind {ts : List Tok} (h : (hdT ts).kind ≠ 0) : 0 < ts.length := by
  cases ts with
  | nil => exact absurd rfl h
  | cons t r => simp
theorem isT_kind {s : List UInt8} {ts : List Tok} (h : isT s ts = true) : (hdT ts).kind ≠ 0 := by
  unfold isT at h
  simp only [Bool.and_eq_true, Bool.or_eq_true, decide_eq_true_eq] at h
  omega
theorem isT_pos {s : List UInt8} {ts : List Tok} (h : isT s ts = true) : 0 < ts.length := len_pos_of_kind (isT_kind h)
theorem fine_must' {s : List UInt8} {ts : List Tok} {n : Nat} (h : 0 < ts.length → ts.length ≤ n) : (mustT s ts).fine n := by
  unfold mustT
  exact fine_ite (fun hs => fine_ok (by have := isT_pos hs; have := h this; simp; omega)) fun _ => fine_bad _ _ _
theorem fine_name {ts : List Tok} {n : Nat} (h : 0 < ts.length → ts.length ≤ n) : (nameT ts).fine n := by
  unfold nameT
  exact fine_ite (fun hs => fine_ok (by have := len_pos_of_kind (ts := ts) (by omega); have := h this; simp; omega)) fun _ => fine_bad _ _ _
theorem fine_opens {α : Type} {o : Nat} {ts : List Tok} {k : List Tok → PR α} {n : Nat} (hk : (k ts.tail).fine n) : (opensT o ts k).fine n := by
  unfold opensT
  exact fine_ite (fun _ => fine_bad _ _ _) fun _ => hk
theorem bindT_pos {ts : List Tok} {k : Nat} (h : bindT (hdT ts) = k) (hk : 0 < k) : 0 < ts.length := by
  refine len_pos_of_kind fun h0 => ?_
  unfold bindT at h
  rw [if_neg (by omega)] at h
  omega
theorem fine_tail {α : Type} {x : α} {ts : List Tok} (h : (hdT ts).kind ≠ 0 ∨ ∃ s, isT s ts = true) : PR.fine (.ok x ts.tail) ts.length :=
  fine_ok (by
    have h0 : 0 < ts.length := by
      rcases h with h | ⟨s, h⟩
      · exact len_pos_of_kind h
      · exact isT_pos h
    simp; omega)
structure EnE (f : Nat) : Prop where
  bin : ∀ k o ts, 1 ≤ k → k ≤ 6 → 16 * ts.length + (10 - k) ≤ f → (pBin f k o ts).fine (ts.length)
  binT : ∀ k o n ts, 1 ≤ k → k ≤ 5 → 16 * ts.length + 1 ≤ f → (pBinT f k o n ts).fine (ts.length + 1)
  un : ∀ o ts, 16 * ts.length + 3 ≤ f → (pUn f o ts).fine (ts.length)
  post : ∀ o ts, 16 * ts.length + 2 ≤ f → (pPost f o ts).fine (ts.length)
  postT : ∀ o n ts, 16 * ts.length + 1 ≤ f → (pPostT f o n ts).fine (ts.length + 1)
  prim : ∀ o ts, 16 * ts.length + 1 ≤ f → (pPrim f o ts).fine (ts.length)
  row : ∀ c e o ts, 16 * ts.length + 13 ≤ f → (pRow f c e o ts).fine (ts.length)
  rowT : ∀ c e o acc ts, 16 * ts.length + 12 ≤ f → (pRowT f c e o acc ts).fine (ts.length)
  item : ∀ c o ts, 16 * ts.length + 11 ≤ f → (pItem f c o ts).fine (ts.length)
theorem tail_len (ts : List Tok) : ts.tail.length = ts.length - 1 := by simp
theorem enE : ∀ f, EnE f
  | 0 => ⟨fun _ _ _ _ _ _ => by omega, fun _ _ _ _ _ _ _ => by omega, fun _ _ _ => by omega, fun _ _ _ => by omega, fun _ _ _ _ => by omega, fun _ _ _ => by omega, fun _ _ _ _ _ => by omega, fun _ _ _ _ _ _ => by omega, fun _ _ _ _ => by omega⟩
  | f + 1 => by
    have ih := enE f
    have tl := tail_len
    constructor
    · intro k o ts h1 h2 h3; simp only [pBin]
      exact fine_ite (fun h => ih.un _ _ (by omega)) fun h => fine_bind (ih.bin _ _ _ (by omega) (by omega) (by omega)) fun n r hr => fine_mono (ih.binT _ _ _ _ h1 (by omega) (by omega)) (by omega)
    · intro k o n ts h1 h2 h3; simp only [pBinT]
      refine fine_ite (fun h => ?_) fun h => fine_ok (by omega)
      have h0 := bindT_pos h (by omega)
      exact fine_bind (ih.bin _ _ _ (by omega) (by omega) (by rw [tl]; omega)) fun m r hr => fine_ite (fun _ => fine_ok (by rw [tl] at hr; omega)) fun _ => fine_mono (ih.binT _ _ _ _ h1 h2 (by rw [tl] at hr; omega)) (by rw [tl] at hr; omega)
    · intro o ts h3; simp only [pUn]
      refine fine_ite (fun h => ?_) fun h => ih.post _ _ (by omega)
      have h0 : 0 < ts.length := by rcases h with h | h <;> exact isT_pos h
      exact fine_opens (fine_bind (ih.un _ _ (by rw [tl]; omega)) fun n r hr => fine_ok (by rw [tl] at hr; omega))
    · intro o ts h3; simp only [pPost]
      exact fine_bind (ih.prim _ _ (by omega)) fun n r hr => fine_mono (ih.postT _ _ _ (by omega)) hr
    · intro o n ts h3; simp only [pPostT]
      refine fine_ite (fun h => ?_) fun h => fine_ite (fun h => ?_) fun h => fine_ok (by omega)
      · have h0 := isT_pos h
        exact fine_opens (fine_bind (ih.bin _ _ _ (by omega) (by omega) (by rw [tl]; omega)) fun m r hr => fine_bind (fine_must' (n := ts.length) (by rw [tl] at hr; omega)) fun _ r' hr' =>
          fine_mono (ih.postT _ _ _ (by omega)) (by omega))
      · have h0 := isT_pos h
        exact fine_bind (fine_name (n := ts.length) (by rw [tl]; omega)) fun _ r' hr' => fine_mono (ih.postT _ _ _ (by omega)) (by omega)
    · intro o ts h3; simp only [pPrim]
      refine fine_ite (fun h => fine_tail (.inl (by omega))) fun _ => fine_ite (fun h => fine_tail (.inl (by omega))) fun _ => fine_ite (fun h => fine_tail (.inr ⟨_, h⟩)) fun _ => fine_ite (fun h => fine_tail (.inr ⟨_, h⟩)) fun _ =>
        fine_ite (fun h => fine_tail (.inr ⟨_, h⟩)) fun _ => fine_ite (fun h => ?_) fun _ => fine_ite (fun h => ?_) fun _ => fine_ite (fun h => ?_) fun _ => fine_ite (fun h => ?_) fun _ => fine_bad _ _ _
      · have h0 := len_pos_of_kind (ts := ts) (by omega)
        refine fine_ite (fun h' => ?_) fun _ => fine_ok (by rw [tl]; omega)
        have h1 := isT_pos h'
        rw [tl] at h1
        exact fine_opens (fine_bind (ih.row _ _ _ _ (by rw [tl, tl]; omega)) fun l r hr => fine_ok (by rw [tl, tl] at hr; omega))
      · have h0 := isT_pos h
        exact fine_opens (fine_bind (ih.bin _ _ _ (by omega) (by omega) (by rw [tl]; omega)) fun m r hr => fine_bind (fine_must' (n := ts.length) (by rw [tl] at hr; omega)) fun _ r' hr' => fine_ok hr')
      · have h0 := isT_pos h
        exact fine_opens (fine_bind (ih.row _ _ _ _ (by rw [tl]; omega)) fun l r hr => fine_ok (by rw [tl] at hr; omega))
      · have h0 := isT_pos h
        exact fine_opens (fine_bind (ih.row _ _ _ _ (by rw [tl]; omega)) fun l r hr => fine_ok (by rw [tl] at hr; omega))
    · intro c e o ts h3; simp only [pRow]
      exact fine_ite (fun h => fine_tail (.inr ⟨_, h⟩)) fun _ => ih.rowT _ _ _ _ _ (by omega)
    · intro c e o acc ts h3; simp only [pRowT]
      refine fine_bind (ih.item _ _ _ (by omega)) fun n r hr => fine_ite (fun h => ?_) fun _ => fine_bind (fine_must' (n := ts.length) (by omega)) fun _ r' hr' => fine_ok hr'
      have h1 := isT_pos h
      exact fine_mono (ih.rowT _ _ _ _ _ (by rw [tl]; omega)) (by rw [tl]; omega)
    · intro c o ts h3; simp only [pItem]
      refine fine_ite (fun h => ih.bin _ _ _ (by omega) (by omega) (by omega)) fun _ => fine_ite (fun h => fine_ite (fun h => ?_) fun _ => fine_bad _ _ _) fun _ => fine_bind (fine_name (n := ts.length) (by omega)) fun _ r' hr' => fine_ok hr'
      have h1 := len_pos_of_kind (ts := ts) (by omega)
      exact fine_bind (fine_must' (n := ts.length) (by rw [tl]; omega)) fun _ r hr => fine_bind (ih.bin _ _ _ (by omega) (by omega) (by omega)) fun m r' hr' => fine_ok (by omega)
theorem fine_mustb {β : Type} {s : List UInt8} {ts : List Tok} {k : Tok → List Tok → PR β} {n : Nat} (h : 0 < ts.length → (k (hdT ts) ts.tail).fine n) : ((mustT s ts).bind k).fine n := by
  unfold mustT
  split
  · exact h (isT_pos ‹_›)
  · exact fine_bad _ _ _
theorem fine_nameb {β : Type} {ts : List Tok} {k : Tok → List Tok → PR β} {n : Nat} (h : 0 < ts.length → (k (hdT ts) ts.tail).fine n) : ((nameT ts).bind k).fine n := by
  unfold nameT
  split
  · exact h (len_pos_of_kind (by omega))
  · exact fine_bad _ _ _
theorem fine_cond {f o : Nat} {ts : List Tok} (h : 16 * ts.length ≤ f + 7) : (pCond f o ts).fine (ts.length) := by
  unfold pCond
  have tl := tail_len
  exact fine_mustb fun h0 => fine_bind ((enE f).bin _ _ _ (by omega) (by omega) (by rw [tl]; omega)) fun n r' hr' => fine_bind (fine_must' (n := ts.length) (by rw [tl] at hr'; omega)) fun _ _ hr'' => fine_ok hr''
theorem fine_end {f o p : Nat} {k : Int} {t : List UInt8} {ts : List Tok} (h : 16 * ts.length + 9 ≤ f) : (pEnd f o k t p ts).fine (ts.length) := by
  unfold pEnd
  exact fine_bind ((enE f).bin _ _ _ (by omega) (by omega) (by omega)) fun n r' hr' => fine_bind (fine_must' (n := ts.length) (by omega)) fun _ _ hr'' => fine_ok hr''
theorem fine_bare {p : Nat} {k : Int} {t : List UInt8} {ts : List Tok} : (pBare k t p ts).fine (ts.length) := by
  unfold pBare
  exact fine_mustb fun h0 => fine_ok (by simp; omega)
structure EnS (f : Nat) : Prop where
  block : ∀ o ts, 16 * ts.length + 1 ≤ f → (pBlock f o ts).fine (ts.length)
  stmts : ∀ o acc ts, 16 * ts.length + 12 ≤ f → (pStmts f o acc ts).fine (ts.length)
  stmt : ∀ o ts, 16 * ts.length + 11 ≤ f → (pStmt f o ts).fine (ts.length)
  iff : ∀ o ts, 16 * ts.length + 1 ≤ f → (pIf f o ts).fine (ts.length)
theorem enS : ∀ f, EnS f
  | 0 => ⟨fun _ _ _ => by omega, fun _ _ _ _ => by omega, fun _ _ _ => by omega, fun _ _ _ => by omega⟩
  | f + 1 => by
    have ih := enS f
    have tl := tail_len
    constructor
    · intro o ts h3; simp only [pBlock]
      refine fine_ite (fun h => ?_) fun _ => fine_bad _ _ _
      have h0 := isT_pos h
      exact fine_opens (fine_bind (ih.stmts _ _ _ (by rw [tl]; omega)) fun l r hr => fine_ok (by rw [tl] at hr; omega))
    · intro o acc ts h3; simp only [pStmts]
      exact fine_ite (fun h => fine_tail (.inr ⟨_, h⟩)) fun _ => fine_bind (ih.stmt _ _ (by omega)) fun n r hr => fine_mono (ih.stmts _ _ _ (by omega)) (by omega)
    · intro o ts h3; simp only [pStmt]
      refine fine_ite (fun h => ?_) fun _ => fine_ite (fun h => ?_) fun _ => fine_ite (fun h => ?_) fun _ => fine_ite (fun h => ?_) fun _ => fine_ite (fun h => ?_) fun _ => fine_ite (fun h => ?_) fun _ => fine_ite (fun h => ?_) fun _ => ?_
      · have h0 := isT_pos h
        exact fine_nameb fun h1 => by
          rw [tl] at h1
          exact fine_ite (fun _ => fine_mono (fine_end (by rw [tl, tl, tl]; omega)) (by rw [tl, tl, tl]; omega)) fun _ => fine_mono fine_bare (by rw [tl, tl]; omega)
      · exact ih.iff _ _ (by omega)
      · have h0 := isT_pos h
        exact fine_bind (fine_cond (by rw [tl]; omega)) fun c r hr => fine_bind (ih.block _ _ (by rw [tl] at hr; omega)) fun b r' hr' => fine_ok (by rw [tl] at hr; omega)
      · have h0 := isT_pos h
        exact fine_ite (fun _ => fine_mono fine_bare (by rw [tl]; omega)) fun _ => fine_mono (fine_end (by rw [tl]; omega)) (by rw [tl]; omega)
      · exact fine_mono fine_bare (by rw [tl]; omega)
      · exact fine_mono fine_bare (by rw [tl]; omega)
      · exact fine_mono (fine_end (by rw [tl, tl]; omega)) (by rw [tl, tl]; omega)
      · exact fine_end (by omega)
    · intro o ts h3; simp only [pIf]
      exact fine_bind (fine_cond (by rw [tl]; omega)) fun c r hr => fine_bind (ih.block _ _ (by rw [tl] at hr; omega)) fun b r' hr' => fine_ite (fun h => by
        have h0 := isT_pos h
        rw [tl] at hr
        exact fine_ite (fun _ => fine_bind (ih.iff _ _ (by rw [tl]; omega)) fun x r'' hr'' => fine_ok (by rw [tl] at hr''; omega)) fun _ => fine_bind (ih.block _ _ (by rw [tl]; omega)) fun x r'' hr'' => fine_ok (by rw [tl] at hr''; omega)) fun _ => fine_ok (by rw [tl] at hr; omega)
theorem fine_fn {f : Nat} {ts : List Tok} (h : 16 * ts.length + 13 ≤ f) : (pFn f ts).fine (ts.length) := by
  unfold pFn
  have tl := tail_len
  have hx : (if isT [101, 120, 112, 111, 114, 116] ts = true then ts.tail else ts).length ≤ ts.length := by split <;> simp
  refine fine_mustb fun h0 => fine_nameb fun h1 => fine_mustb fun h2 => ?_
  refine fine_bind ((enE f).row _ _ _ _ (by rw [tl, tl, tl]; omega)) fun l r hr => ?_
  rw [tl, tl, tl] at hr
  rw [tl] at h1
  exact fine_bind ((enS f).block _ _ (by omega)) fun b r' hr' => fine_ok (by omega)
theorem fine_fns : ∀ {f : Nat} {acc : List N} {ts : List Tok} (h : 16 * ts.length + 14 ≤ f), (pFns f acc ts).fine (ts.length + 1)
  | 0, acc, ts, h => by omega
  | f + 1, acc, ts, h => by
    simp only [pFns]
    exact fine_ite (fun h => fine_ok (by omega)) fun hk => fine_bind (fine_fn (by omega)) fun n r hr => by
      have h0 := len_pos_of_kind hk
      exact fine_mono (fine_fns (by omega)) (by omega)
theorem fine_top {f : Nat} {ts : List Tok} (h : 16 * ts.length + 9 ≤ f) : (pExprTop f ts).fine (ts.length + 1) := by
  unfold pExprTop
  exact fine_bind ((enE f).bin _ _ _ (by omega) (by omega) (by omega)) fun n r hr => fine_ite (fun _ => fine_ok (by omega)) fun _ => fine_bad _ _ _
end Go.Proofs.YtlnhhffhmeekoaaGreatDoor
namespace Go.Proofs.YtlnhhffhmeekoaaGreatDoor

/-- Q holds of the tokens behind a token that is not the end, where it holds of those from it on -/
def Tails (Q : List Tok → Prop) : Prop := ∀ ts, Q ts → (hdT ts).kind ≠ 0 → Q ts.tail
def PR.inv {α : Type} (Q : List Tok → Prop) : PR α → Prop
  | .out => True
  | .bad e p => (e = 170 ∨ e = 171) ∧ ∃ ts, Q ts ∧ p = (hdT ts).pos
  | .ok _ ts => Q ts
section
variable {Q : List Tok → Prop}
theorem inv_bad {α : Type} {ts : List Tok} (h : Q ts) : PR.inv (α := α) Q (.bad 170 (hdT ts).pos) := ⟨.inl rfl, ts, h, rfl⟩
theorem inv_deep {α : Type} {ts : List Tok} (h : Q ts) : PR.inv (α := α) Q (.bad 171 (hdT ts).pos) := ⟨.inr rfl, ts, h, rfl⟩
theorem inv_bind {α β : Type} {r : PR α} {k : α → List Tok → PR β} (h : r.inv Q) (hk : ∀ x ts, Q ts → (k x ts).inv Q) : (r.bind k).inv Q := by
  cases r with
  | out => trivial
  | bad e p => exact h
  | ok x ts => exact hk x ts h
theorem inv_ite {α : Type} {c : Prop} [Decidable c] {a b : PR α} (h : c → a.inv Q) (h' : ¬ c → b.inv Q) : PR.inv Q (if c then a else b) := by
  split
  · exact h ‹_›
  · exact h' ‹_›
theorem inv_opens {α : Type} {o : Nat} {ts : List Tok} {k : List Tok → PR α} (hq : Q ts) (hk : (k ts.tail).inv Q) : (opensT o ts k).inv Q := by
  unfold opensT
  exact inv_ite (fun _ => inv_deep hq) fun _ => hk
variable (hT : Tails Q)
include hT
theorem tail_is {s : List UInt8} {ts : List Tok} (h : Q ts) (hs : isT s ts = true) : Q ts.tail := hT ts h (isT_kind hs)
theorem inv_must {s : List UInt8} {ts : List Tok} (h : Q ts) : (mustT s ts).inv Q := by
  unfold mustT
  exact inv_ite (fun hs => tail_is hT h hs) fun _ => inv_bad h
theorem inv_name {ts : List Tok} (h : Q ts) : (nameT ts).inv Q := by
  unfold nameT
  exact inv_ite (fun hs => hT ts h (by omega)) fun _ => inv_bad h
theorem tail_binds {ts : List Tok} {k : Nat} (h : Q ts) (hk : 1 ≤ k) (hs : bindT (hdT ts) = k) : Q ts.tail := hT ts h (fun h0 => by
  unfold bindT at hs
  rw [if_neg (by omega)] at hs
  omega)
end
structure InvE (Q : List Tok → Prop) (f : Nat) : Prop where
  bin : ∀ k o ts, 1 ≤ k → Q ts → (pBin f k o ts).inv Q
  binT : ∀ k o n ts, 1 ≤ k → Q ts → (pBinT f k o n ts).inv Q
  un : ∀ o ts, Q ts → (pUn f o ts).inv Q
  post : ∀ o ts, Q ts → (pPost f o ts).inv Q
  postT : ∀ o n ts, Q ts → (pPostT f o n ts).inv Q
  prim : ∀ o ts, Q ts → (pPrim f o ts).inv Q
  row : ∀ c e o ts, Q ts → (pRow f c e o ts).inv Q
  rowT : ∀ c e o acc ts, Q ts → (pRowT f c e o acc ts).inv Q
  item : ∀ c o ts, Q ts → (pItem f c o ts).inv Q
theorem invE {Q : List Tok → Prop} (hT : Tails Q) : ∀ f, InvE Q f
  | 0 => ⟨fun _ _ _ _ _ => by rw [pBin]; trivial, fun _ _ _ _ _ _ => by rw [pBinT]; trivial, fun _ _ _ => by rw [pUn]; trivial, fun _ _ _ => by rw [pPost]; trivial, fun _ _ _ _ => by rw [pPostT]; trivial,
      fun _ _ _ => by rw [pPrim]; trivial, fun _ _ _ _ _ => by rw [pRow]; trivial, fun _ _ _ _ _ _ => by rw [pRowT]; trivial, fun _ _ _ _ => by rw [pItem]; trivial⟩
  | f + 1 => by
    have ih := invE hT f
    constructor
    · intro k o ts hk hq; simp only [pBin]
      exact inv_ite (fun _ => ih.un _ _ hq) fun _ => inv_bind (ih.bin _ _ _ (by omega) hq) fun n r hr => ih.binT _ _ _ _ hk hr
    · intro k o n ts hk hq; simp only [pBinT]
      exact inv_ite (fun h => inv_bind (ih.bin _ _ _ (by omega) (tail_binds hT hq hk h)) fun m r hr => inv_ite (fun _ => hr) fun _ => ih.binT _ _ _ _ hk hr) fun _ => hq
    · intro o ts hq; simp only [pUn]
      refine inv_ite (fun h => ?_) fun _ => ih.post _ _ hq
      have ht : Q ts.tail := by rcases h with h | h <;> exact tail_is hT hq h
      exact inv_opens hq (inv_bind (ih.un _ _ ht) fun n r hr => hr)
    · intro o ts hq; simp only [pPost]
      exact inv_bind (ih.prim _ _ hq) fun n r hr => ih.postT _ _ _ hr
    · intro o n ts hq; simp only [pPostT]
      exact inv_ite (fun h => inv_opens hq (inv_bind (ih.bin _ _ _ (by omega) (tail_is hT hq h)) fun m r hr => inv_bind (inv_must hT hr) fun _ r' hr' => ih.postT _ _ _ hr'))
        fun _ => inv_ite (fun h => inv_bind (inv_name hT (tail_is hT hq h)) fun t r hr => ih.postT _ _ _ hr) fun _ => hq
    · intro o ts hq; simp only [pPrim]
      refine inv_ite (fun h => hT _ hq (by omega)) fun _ => inv_ite (fun h => hT _ hq (by omega)) fun _ => inv_ite (fun h => tail_is hT hq h) fun _ => inv_ite (fun h => tail_is hT hq h) fun _ => inv_ite (fun h => tail_is hT hq h) fun _ =>
        inv_ite (fun h => ?_) fun _ => inv_ite (fun h => ?_) fun _ => inv_ite (fun h => ?_) fun _ => inv_ite (fun h => ?_) fun _ => inv_bad hq
      · have ht : Q ts.tail := hT _ hq (by omega)
        exact inv_ite (fun h' => inv_opens ht (inv_bind (ih.row _ _ _ _ (tail_is hT ht h')) fun l r hr => hr)) fun _ => ht
      · exact inv_opens hq (inv_bind (ih.bin _ _ _ (by omega) (tail_is hT hq h)) fun m r hr => inv_bind (inv_must hT hr) fun _ r' hr' => hr')
      · exact inv_opens hq (inv_bind (ih.row _ _ _ _ (tail_is hT hq h)) fun l r hr => hr)
      · exact inv_opens hq (inv_bind (ih.row _ _ _ _ (tail_is hT hq h)) fun l r hr => hr)
    · intro c e o ts hq; simp only [pRow]
      exact inv_ite (fun h => tail_is hT hq h) fun _ => ih.rowT _ _ _ _ _ hq
    · intro c e o acc ts hq; simp only [pRowT]
      exact inv_bind (ih.item _ _ _ hq) fun n r hr => inv_ite (fun h => ih.rowT _ _ _ _ _ (tail_is hT hr h)) fun _ => inv_bind (inv_must hT hr) fun _ r' hr' => hr'
    · intro c o ts hq; simp only [pItem]
      exact inv_ite (fun _ => ih.bin _ _ _ (by omega) hq) fun _ => inv_ite (fun _ => inv_ite (fun h => inv_bind (inv_must hT (hT _ hq (by omega))) fun _ r hr => inv_bind (ih.bin _ _ _ (by omega) hr) fun m r' hr' => hr') fun _ => inv_bad hq)
        fun _ => inv_bind (inv_name hT hq) fun _ r' hr' => hr'
section
variable {Q : List Tok → Prop} (hT : Tails Q)
include hT
theorem inv_cond (f o : Nat) {ts : List Tok} (hq : Q ts) : (pCond f o ts).inv Q :=
  inv_bind (inv_must hT hq) fun _ r hr => inv_bind ((invE hT f).bin _ _ _ (by omega) hr) fun n r hr => inv_bind (inv_must hT hr) fun _ r hr => hr
theorem inv_end (f o : Nat) (k : Int) (t : List UInt8) (p : Nat) {ts : List Tok} (hq : Q ts) : (pEnd f o k t p ts).inv Q :=
  inv_bind ((invE hT f).bin _ _ _ (by omega) hq) fun n r hr => inv_bind (inv_must hT hr) fun _ r hr => hr
theorem inv_bare (k : Int) (t : List UInt8) (p : Nat) {ts : List Tok} (hq : Q ts) : (pBare k t p ts).inv Q := inv_bind (inv_must hT hq) fun _ r hr => hr
theorem sets_tail {ts : List Tok} (hq : Q ts) (h : setsT ts = true) : Q ts.tail.tail := by
  unfold setsT at h
  simp only [Bool.and_eq_true, decide_eq_true_eq] at h
  exact hT _ (hT _ hq (by omega)) (by omega)
end
structure InvS (Q : List Tok → Prop) (f : Nat) : Prop where
  block : ∀ o ts, Q ts → (pBlock f o ts).inv Q
  stmts : ∀ o acc ts, Q ts → (pStmts f o acc ts).inv Q
  stmt : ∀ o ts, Q ts → (pStmt f o ts).inv Q
  iff : ∀ o ts, Q ts → (hdT ts).kind ≠ 0 → (pIf f o ts).inv Q
theorem invS {Q : List Tok → Prop} (hT : Tails Q) : ∀ f, InvS Q f
  | 0 => ⟨fun _ _ _ => by rw [pBlock]; trivial, fun _ _ _ _ => by rw [pStmts]; trivial, fun _ _ _ => by rw [pStmt]; trivial, fun _ _ _ _ => by rw [pIf]; trivial⟩
  | f + 1 => by
    have ih := invS hT f
    constructor
    · intro o ts hq; simp only [pBlock]
      exact inv_ite (fun h => inv_opens hq (inv_bind (ih.stmts _ _ _ (tail_is hT hq h)) fun l r hr => hr)) fun _ => inv_bad hq
    · intro o acc ts hq; simp only [pStmts]
      exact inv_ite (fun h => tail_is hT hq h) fun _ => inv_bind (ih.stmt _ _ hq) fun n r hr => ih.stmts _ _ _ hr
    · intro o ts hq; simp only [pStmt]
      refine inv_ite (fun h => ?_) fun _ => inv_ite (fun h => ?_) fun _ => inv_ite (fun h => ?_) fun _ => inv_ite (fun h => ?_) fun _ => inv_ite (fun h => ?_) fun _ => inv_ite (fun h => ?_) fun _ => inv_ite (fun h => ?_) fun _ => ?_
      · exact inv_bind (inv_name hT (tail_is hT hq h)) fun t r hr => inv_ite (fun h' => inv_end hT _ _ _ _ _ (tail_is hT hr h')) fun _ => inv_bare hT _ _ _ hr
      · exact ih.iff _ _ hq (isT_kind h)
      · exact inv_bind (inv_cond hT _ _ (tail_is hT hq h)) fun c r hr => inv_bind (ih.block _ _ hr) fun b r hr => hr
      · have ht := tail_is hT hq h
        exact inv_ite (fun _ => inv_bare hT _ _ _ ht) fun _ => inv_end hT _ _ _ _ _ ht
      · exact inv_bare hT _ _ _ (tail_is hT hq h)
      · exact inv_bare hT _ _ _ (tail_is hT hq h)
      · exact inv_end hT _ _ _ _ _ (sets_tail hT hq h)
      · exact inv_end hT _ _ _ _ _ hq
    · intro o ts hq h0; simp only [pIf]
      exact inv_bind (inv_cond hT _ _ (hT _ hq h0)) fun c r hr => inv_bind (ih.block _ _ hr) fun b r hr => inv_ite (fun h => by
        have ht := tail_is hT hr h
        exact inv_ite (fun h' => inv_bind (ih.iff _ _ ht (isT_kind h')) fun x r hr => hr) fun _ => inv_bind (ih.block _ _ ht) fun x r hr => hr) fun _ => hr
theorem inv_fn {Q : List Tok → Prop} (hT : Tails Q) (f : Nat) {ts : List Tok} (hq : Q ts) : (pFn f ts).inv Q := by
  unfold pFn
  have h0 : Q (if isT [101, 120, 112, 111, 114, 116] ts = true then ts.tail else ts) := by
    split
    · exact tail_is hT hq ‹_›
    · exact hq
  exact inv_bind (inv_must hT h0) fun _ r hr => inv_bind (inv_name hT hr) fun t r hr => inv_bind (inv_must hT hr) fun _ r hr => inv_bind ((invE hT f).row _ _ _ _ hr) fun l r hr => inv_bind ((invS hT f).block _ _ hr) fun b r hr => hr
theorem inv_fns {Q : List Tok → Prop} (hT : Tails Q) : ∀ (f : Nat) (acc : List N) {ts : List Tok} (hq : Q ts), (pFns f acc ts).inv Q
  | 0, acc, ts, hq => by rw [pFns]; trivial
  | f + 1, acc, ts, hq => by
    simp only [pFns]
    exact inv_ite (fun _ => hq) fun _ => inv_bind (inv_fn hT f hq) fun n r hr => inv_fns hT f _ hr
theorem inv_top {Q : List Tok → Prop} (hT : Tails Q) (f : Nat) {ts : List Tok} (hq : Q ts) : (pExprTop f ts).inv Q :=
  inv_bind ((invE hT f).bin _ _ _ (by omega) hq) fun n r hr => inv_ite (fun _ => hr) fun _ => inv_bad hr
end Go.Proofs.YtlnhhffhmeekoaaGreatDoor
namespace Go.Proofs.YtlnhhffhmeekoaaGreatDoor

/-- tokens that stand behind a place, up to an end -/
def Past (X : Nat) (ts : List Tok) : Prop := (∀ t ∈ ts, X < t.pos) ∧ ∃ u e, ts = u ++ [e] ∧ e.kind = 0
theorem past_tails (X : Nat) : Tails (Past X) := by
  rintro ts ⟨h1, u, e, rfl, h2⟩ h0
  cases u with
  | nil => exact absurd h2 h0
  | cons t u => exact ⟨fun x hx => h1 x (by simp at hx ⊢; exact .inr hx), u, e, rfl, h2⟩
theorem past_head {X : Nat} {ts : List Tok} (h : Past X ts) : X < (hdT ts).pos := by
  obtain ⟨h1, u, e, rfl, h2⟩ := h
  cases u with
  | nil => exact h1 e (by simp)
  | cons t u => exact h1 t (by simp)
/-- a shared beginning, that ends at X -/
def Sh (X : Nat) (ts ts' : List Tok) : Prop := ∃ t a b b', ts = t :: a ++ b ∧ ts' = t :: a ++ b' ∧ Past X b
theorem sh_head {X : Nat} {ts ts' : List Tok} (h : Sh X ts ts') : hdT ts' = hdT ts := by
  obtain ⟨t, a, b, b', rfl, rfl, h⟩ := h
  rfl
theorem sh_isT {X : Nat} {ts ts' : List Tok} (h : Sh X ts ts') (s : List UInt8) : isT s ts' = isT s ts := by
  unfold isT
  rw [sh_head h]
theorem sh_tail {X : Nat} {ts ts' : List Tok} (h : Sh X ts ts') : Sh X ts.tail ts'.tail ∨ Past X ts.tail := by
  obtain ⟨t, a, b, b', rfl, rfl, h⟩ := h
  cases a with
  | nil => exact .inr h
  | cons y a => exact .inl ⟨y, a, b, b', rfl, rfl, h⟩
def RS {α : Type} (X : Nat) (r r' : PR α) : Prop :=
  match r with
  | .out => True
  | .bad e p => X < p ∨ r' = .bad e p
  | .ok n t => Past X t ∨ ∃ t', r' = .ok n t' ∧ Sh X t t'
section
variable {X : Nat}
theorem rs_late {α : Type} {r r' : PR α} (h : r.inv (Past X)) : RS X r r' := by
  cases r with
  | out => trivial
  | bad e p =>
    obtain ⟨_, ts, h1, rfl⟩ := h
    exact .inl (past_head h1)
  | ok n t => exact .inl h
theorem rs_bad {α : Type} {e p : Nat} : RS (α := α) X (.bad e p) (.bad e p) := .inr rfl
theorem rs_ok {α : Type} {x : α} {ts ts' : List Tok} (h : Sh X ts ts') : RS X (.ok x ts) (.ok x ts') := .inr ⟨ts', rfl, h⟩
theorem rs_bind {α β : Type} {r r' : PR α} {k k' : α → List Tok → PR β} (h : RS X r r') (hS : ∀ n t t', Sh X t t' → RS X (k n t) (k' n t')) (hP : ∀ n t, Past X t → (k n t).inv (Past X)) : RS X (r.bind k) (r'.bind k') := by
  cases r with
  | out => trivial
  | bad e p =>
    rcases h with h | rfl
    · exact .inl h
    · exact .inr rfl
  | ok n t =>
    rcases h with h | ⟨t', rfl, h⟩
    · exact rs_late (hP n t h)
    · exact hS n t t' h
theorem rs_ite {α : Type} {c : Prop} [Decidable c] {a a' b b' : PR α} (h : c → RS X a a') (h' : ¬ c → RS X b b') : RS X (if c then a else b) (if c then a' else b') := by
  split
  · exact h ‹_›
  · exact h' ‹_›
theorem rs_opens {α : Type} {o : Nat} {ts ts' : List Tok} {k k' : List Tok → PR α} (h : Sh X ts ts') (hk : RS X (k ts.tail) (k' ts'.tail)) : RS X (opensT o ts k) (opensT o ts' k') := by
  unfold opensT
  rw [sh_head h]
  exact rs_ite (fun _ => rs_bad) fun _ => hk
theorem rs_must {s : List UInt8} {ts ts' : List Tok} (h : Sh X ts ts') : RS X (mustT s ts) (mustT s ts') := by
  unfold mustT
  rw [sh_head h, sh_isT h]
  refine rs_ite (fun _ => ?_) fun _ => rs_bad
  rcases sh_tail h with ht | hp
  · exact rs_ok ht
  · exact rs_late hp
theorem rs_name {ts ts' : List Tok} (h : Sh X ts ts') : RS X (nameT ts) (nameT ts') := by
  unfold nameT
  rw [sh_head h]
  refine rs_ite (fun _ => ?_) fun _ => rs_bad
  rcases sh_tail h with ht | hp
  · exact rs_ok ht
  · exact rs_late hp
end
/-- an expression that begins with a name takes it -/
theorem name_isT {ts : List Tok} (h : (hdT ts).kind = 1) (s : List UInt8) : isT s ts = false := by
  unfold isT
  rw [h]
  simp
structure Took (Q : List Tok → Prop) (f : Nat) : Prop where
  bin : ∀ k o ts, 1 ≤ k → (hdT ts).kind = 1 → Q ts.tail → (pBin f k o ts).inv Q
  un : ∀ o ts, (hdT ts).kind = 1 → Q ts.tail → (pUn f o ts).inv Q
  post : ∀ o ts, (hdT ts).kind = 1 → Q ts.tail → (pPost f o ts).inv Q
  prim : ∀ o ts, (hdT ts).kind = 1 → Q ts.tail → (pPrim f o ts).inv Q
theorem took {Q : List Tok → Prop} (hT : Tails Q) : ∀ f, Took Q f
  | 0 => ⟨fun _ _ _ _ _ _ => by rw [pBin]; trivial, fun _ _ _ _ => by rw [pUn]; trivial, fun _ _ _ _ => by rw [pPost]; trivial, fun _ _ _ _ => by rw [pPrim]; trivial⟩
  | f + 1 => by
    have ih := took hT f
    have I := invE hT f
    constructor
    · intro k o ts hk h1 ht; simp only [pBin]
      exact inv_ite (fun _ => ih.un _ _ h1 ht) fun _ => inv_bind (ih.bin _ _ _ (by omega) h1 ht) fun n r hr => I.binT _ _ _ _ hk hr
    · intro o ts h1 ht; simp only [pUn, name_isT h1]
      exact inv_ite (fun h => by simp at h) fun _ => ih.post _ _ h1 ht
    · intro o ts h1 ht; simp only [pPost]
      exact inv_bind (ih.prim _ _ h1 ht) fun n r hr => I.postT _ _ _ hr
    · intro o ts h1 ht; simp only [pPrim, name_isT h1, h1]
      simp only [show ¬ (1 = 3) by decide, show ¬ (1 = 4) by decide, if_false, if_true, Bool.false_eq_true]
      exact inv_ite (fun h' => inv_opens ht (inv_bind (I.row _ _ _ _ (tail_is hT ht h')) fun l r hr => hr)) fun _ => ht
structure SimE (X f : Nat) : Prop where
  bin : ∀ k o ts ts', 1 ≤ k → Sh X ts ts' → RS X (pBin f k o ts) (pBin f k o ts')
  binT : ∀ k o n ts ts', 1 ≤ k → Sh X ts ts' → RS X (pBinT f k o n ts) (pBinT f k o n ts')
  un : ∀ o ts ts', Sh X ts ts' → RS X (pUn f o ts) (pUn f o ts')
  post : ∀ o ts ts', Sh X ts ts' → RS X (pPost f o ts) (pPost f o ts')
  postT : ∀ o n ts ts', Sh X ts ts' → RS X (pPostT f o n ts) (pPostT f o n ts')
  prim : ∀ o ts ts', Sh X ts ts' → RS X (pPrim f o ts) (pPrim f o ts')
  row : ∀ c e o ts ts', Sh X ts ts' → RS X (pRow f c e o ts) (pRow f c e o ts')
  rowT : ∀ c e o acc ts ts', Sh X ts ts' → RS X (pRowT f c e o acc ts) (pRowT f c e o acc ts')
  item : ∀ c o ts ts', Sh X ts ts' → RS X (pItem f c o ts) (pItem f c o ts')
theorem simE (X : Nat) : ∀ f, SimE X f
  | 0 => ⟨fun _ _ _ _ _ _ => by rw [pBin]; trivial, fun _ _ _ _ _ _ _ => by rw [pBinT]; trivial, fun _ _ _ _ => by rw [pUn]; trivial, fun _ _ _ _ => by rw [pPost]; trivial, fun _ _ _ _ _ => by rw [pPostT]; trivial,
      fun _ _ _ _ => by rw [pPrim]; trivial, fun _ _ _ _ _ _ => by rw [pRow]; trivial, fun _ _ _ _ _ _ _ => by rw [pRowT]; trivial, fun _ _ _ _ _ => by rw [pItem]; trivial⟩
  | f + 1 => by
    have ih := simE X f
    have hT := past_tails X
    have I := invE hT f
    have T := took hT f
    constructor
    · intro k o ts ts' hk h; simp only [pBin]
      exact rs_ite (fun _ => ih.un _ _ _ h) fun _ => rs_bind (ih.bin _ _ _ _ (by omega) h) (fun n t t' h => ih.binT _ _ _ _ _ hk h) fun n t hp => I.binT _ _ _ _ hk hp
    · intro k o n ts ts' hk h; simp only [pBinT, sh_head h]
      refine rs_ite (fun hb => ?_) fun _ => rs_ok h
      rcases sh_tail h with ht | hp
      · exact rs_bind (ih.bin _ _ _ _ (by omega) ht) (fun m t t' h => rs_ite (fun _ => rs_ok h) fun _ => ih.binT _ _ _ _ _ hk h) fun m t hp => inv_ite (fun _ => hp) fun _ => I.binT _ _ _ _ hk hp
      · exact rs_late (inv_bind (I.bin _ _ _ (by omega) hp) fun m t hp => inv_ite (fun _ => hp) fun _ => I.binT _ _ _ _ hk hp)
    · intro o ts ts' h; simp only [pUn, sh_head h, sh_isT h]
      refine rs_ite (fun _ => rs_opens h ?_) fun _ => ih.post _ _ _ h
      rcases sh_tail h with ht | hp
      · exact rs_bind (ih.un _ _ _ ht) (fun n t t' h => rs_ok h) fun n t hp => hp
      · exact rs_late (inv_bind (I.un _ _ hp) fun n t hp => hp)
    · intro o ts ts' h; simp only [pPost]
      exact rs_bind (ih.prim _ _ _ h) (fun n t t' h => ih.postT _ _ _ _ h) fun n t hp => I.postT _ _ _ hp
    · intro o n ts ts' h; simp only [pPostT, sh_head h, sh_isT h]
      refine rs_ite (fun _ => rs_opens h ?_) fun _ => rs_ite (fun _ => ?_) fun _ => rs_ok h
      · rcases sh_tail h with ht | hp
        · exact rs_bind (ih.bin _ _ _ _ (by omega) ht) (fun m t t' h => rs_bind (rs_must h) (fun _ t t' h => ih.postT _ _ _ _ h) fun _ t hp => I.postT _ _ _ hp) fun m t hp => inv_bind (inv_must hT hp) fun _ t hp => I.postT _ _ _ hp
        · exact rs_late (inv_bind (I.bin _ _ _ (by omega) hp) fun m t hp => inv_bind (inv_must hT hp) fun _ t hp => I.postT _ _ _ hp)
      · rcases sh_tail h with ht | hp
        · exact rs_bind (rs_name ht) (fun _ t t' h => ih.postT _ _ _ _ h) fun _ t hp => I.postT _ _ _ hp
        · exact rs_late (inv_bind (inv_name hT hp) fun _ t hp => I.postT _ _ _ hp)
    · intro o ts ts' h; simp only [pPrim, sh_head h, sh_isT h]
      have htl : ∀ x : N, RS X (.ok x ts.tail) (.ok x ts'.tail) := fun x => by
        rcases sh_tail h with ht | hp
        · exact rs_ok ht
        · exact rs_late hp
      have hrow : ∀ c e (g : List N → N), RS X ((pRow f c e (o + 1) ts.tail).bind fun l r => .ok (g l) r) ((pRow f c e (o + 1) ts'.tail).bind fun l r => .ok (g l) r) := fun c e g => by
        rcases sh_tail h with ht | hp
        · exact rs_bind (ih.row _ _ _ _ _ ht) (fun l t t' h => rs_ok h) fun l t hp => hp
        · exact rs_late (inv_bind (I.row _ _ _ _ hp) fun l t hp => hp)
      refine rs_ite (fun _ => htl _) fun _ => rs_ite (fun _ => htl _) fun _ => rs_ite (fun _ => htl _) fun _ => rs_ite (fun _ => htl _) fun _ => rs_ite (fun _ => htl _) fun _ =>
        rs_ite (fun h1 => ?_) fun _ => rs_ite (fun _ => rs_opens h ?_) fun _ => rs_ite (fun _ => rs_opens h (hrow _ _ _)) fun _ => rs_ite (fun _ => rs_opens h (hrow _ _ _)) fun _ => rs_bad
      · rcases sh_tail h with ht | hp
        · rw [sh_isT ht]
          refine rs_ite (fun _ => rs_opens ht ?_) fun _ => rs_ok ht
          rcases sh_tail ht with ht | hp
          · exact rs_bind (ih.row _ _ _ _ _ ht) (fun l t t' h => rs_ok h) fun l t hp => hp
          · exact rs_late (inv_bind (I.row _ _ _ _ hp) fun l t hp => hp)
        · exact rs_late (inv_ite (fun h' => inv_opens hp (inv_bind (I.row _ _ _ _ (tail_is hT hp h')) fun l r hr => hr)) fun _ => hp)
      · rcases sh_tail h with ht | hp
        · exact rs_bind (ih.bin _ _ _ _ (by omega) ht) (fun m t t' h => rs_bind (rs_must h) (fun _ t t' h => rs_ok h) fun _ t hp => hp) fun m t hp => inv_bind (inv_must hT hp) fun _ t hp => hp
        · exact rs_late (inv_bind (I.bin _ _ _ (by omega) hp) fun m t hp => inv_bind (inv_must hT hp) fun _ t hp => hp)
    · intro c e o ts ts' h; simp only [pRow, sh_isT h]
      refine rs_ite (fun _ => ?_) fun _ => ih.rowT _ _ _ _ _ _ h
      rcases sh_tail h with ht | hp
      · exact rs_ok ht
      · exact rs_late hp
    · intro c e o acc ts ts' h; simp only [pRowT]
      refine rs_bind (ih.item _ _ _ _ h) (fun n t t' h => ?_) fun n t hp => inv_ite (fun h => I.rowT _ _ _ _ _ (tail_is hT hp h)) fun _ => inv_bind (inv_must hT hp) fun _ t hp => hp
      simp only [sh_isT h]
      refine rs_ite (fun _ => ?_) fun _ => rs_bind (rs_must h) (fun _ t t' h => rs_ok h) fun _ t hp => hp
      rcases sh_tail h with ht | hp
      · exact ih.rowT _ _ _ _ _ _ ht
      · exact rs_late (I.rowT _ _ _ _ _ hp)
    · intro c o ts ts' h; simp only [pItem, sh_head h]
      refine rs_ite (fun _ => ih.bin _ _ _ _ (by omega) h) fun _ => rs_ite (fun _ => rs_ite (fun _ => ?_) fun _ => rs_bad) fun _ => rs_bind (rs_name h) (fun _ t t' h => rs_ok h) fun _ t hp => hp
      rcases sh_tail h with ht | hp
      · exact rs_bind (rs_must ht) (fun _ t t' h => rs_bind (ih.bin _ _ _ _ (by omega) h) (fun _ t t' h => rs_ok h) fun _ t hp => hp) fun _ t hp => inv_bind (I.bin _ _ _ (by omega) hp) fun _ t hp => hp
      · exact rs_late (inv_bind (inv_must hT hp) fun _ t hp => inv_bind (I.bin _ _ _ (by omega) hp) fun _ t hp => hp)
section
variable {X : Nat}
theorem rs_cond (f o : Nat) {ts ts' : List Tok} (h : Sh X ts ts') : RS X (pCond f o ts) (pCond f o ts') :=
  rs_bind (rs_must h) (fun _ t t' h => rs_bind ((simE X f).bin _ _ _ _ (by omega) h) (fun _ t t' h => rs_bind (rs_must h) (fun _ t t' h => rs_ok h) fun _ t hp => hp) fun _ t hp => inv_bind (inv_must (past_tails X) hp) fun _ t hp => hp)
    fun _ t hp => inv_bind ((invE (past_tails X) f).bin _ _ _ (by omega) hp) fun _ t hp => inv_bind (inv_must (past_tails X) hp) fun _ t hp => hp
theorem rs_end (f o : Nat) (k : Int) (t : List UInt8) (p : Nat) {ts ts' : List Tok} (h : Sh X ts ts') : RS X (pEnd f o k t p ts) (pEnd f o k t p ts') :=
  rs_bind ((simE X f).bin _ _ _ _ (by omega) h) (fun _ t t' h => rs_bind (rs_must h) (fun _ t t' h => rs_ok h) fun _ t hp => hp) fun _ t hp => inv_bind (inv_must (past_tails X) hp) fun _ t hp => hp
theorem rs_bare (k : Int) (t : List UInt8) (p : Nat) {ts ts' : List Tok} (h : Sh X ts ts') : RS X (pBare k t p ts) (pBare k t p ts') :=
  rs_bind (rs_must h) (fun _ t t' h => rs_ok h) fun _ t hp => hp
/-- a step at the tokens behind the next one -/
theorem rs_next {α : Type} {ts ts' : List Tok} (h : Sh X ts ts') {r r' : PR α} (hS : Sh X ts.tail ts'.tail → RS X r r') (hP : Past X ts.tail → r.inv (Past X)) : RS X r r' := by
  rcases sh_tail h with ht | hp
  · exact hS ht
  · exact rs_late (hP hp)
end
structure SimS (X f : Nat) : Prop where
  block : ∀ o ts ts', Sh X ts ts' → RS X (pBlock f o ts) (pBlock f o ts')
  stmts : ∀ o acc ts ts', Sh X ts ts' → RS X (pStmts f o acc ts) (pStmts f o acc ts')
  stmt : ∀ o ts ts', Sh X ts ts' → RS X (pStmt f o ts) (pStmt f o ts')
  iff : ∀ o ts ts', Sh X ts ts' → RS X (pIf f o ts) (pIf f o ts')
theorem simS (X : Nat) : ∀ f, SimS X f
  | 0 => ⟨fun _ _ _ _ => by rw [pBlock]; trivial, fun _ _ _ _ _ => by rw [pStmts]; trivial, fun _ _ _ _ => by rw [pStmt]; trivial, fun _ _ _ _ => by rw [pIf]; trivial⟩
  | f + 1 => by
    have ih := simS X f
    have hT := past_tails X
    have I := invE hT f
    have J := invS hT f
    have T := took hT f
    constructor
    · intro o ts ts' h; simp only [pBlock, sh_head h, sh_isT h]
      refine rs_ite (fun _ => rs_opens h ?_) fun _ => rs_bad
      exact rs_next h (fun ht => rs_bind (ih.stmts _ _ _ _ ht) (fun l t t' h => rs_ok h) fun l t hp => hp) fun hp => inv_bind (J.stmts _ _ _ hp) fun l t hp => hp
    · intro o acc ts ts' h; simp only [pStmts, sh_isT h]
      refine rs_ite (fun _ => ?_) fun _ => rs_bind (ih.stmt _ _ _ h) (fun n t t' h => ih.stmts _ _ _ _ h) fun n t hp => J.stmts _ _ _ hp
      exact rs_next h rs_ok fun hp => hp
    · intro o ts ts' h; simp only [pStmt, sh_head h, sh_isT h]
      refine rs_ite (fun _ => ?_) fun _ => rs_ite (fun _ => ih.iff _ _ _ h) fun _ => rs_ite (fun _ => ?_) fun _ => rs_ite (fun _ => ?_) fun _ => rs_ite (fun _ => ?_) fun _ => rs_ite (fun _ => ?_) fun _ => ?_
      · refine rs_next h (fun ht => rs_bind (rs_name ht) (fun n t t' h => ?_) fun n t hp => inv_ite (fun h' => inv_end hT _ _ _ _ _ (tail_is hT hp h')) fun _ => inv_bare hT _ _ _ hp) fun hp =>
          inv_bind (inv_name hT hp) fun n t hp => inv_ite (fun h' => inv_end hT _ _ _ _ _ (tail_is hT hp h')) fun _ => inv_bare hT _ _ _ hp
        simp only [sh_isT h]
        exact rs_ite (fun _ => rs_next h (fun ht => rs_end _ _ _ _ _ ht) fun hp => inv_end hT _ _ _ _ _ hp) fun _ => rs_bare _ _ _ h
      · exact rs_next h (fun ht => rs_bind (rs_cond _ _ ht) (fun c t t' h => rs_bind (ih.block _ _ _ h) (fun b t t' h => rs_ok h) fun b t hp => hp) fun c t hp => inv_bind (J.block _ _ hp) fun b t hp => hp)
          fun hp => inv_bind (inv_cond hT _ _ hp) fun c t hp => inv_bind (J.block _ _ hp) fun b t hp => hp
      · refine rs_next h (fun ht => ?_) fun hp => inv_ite (fun _ => inv_bare hT _ _ _ hp) fun _ => inv_end hT _ _ _ _ _ hp
        rw [sh_isT ht]
        exact rs_ite (fun _ => rs_bare _ _ _ ht) fun _ => rs_end _ _ _ _ _ ht
      · exact rs_next h (fun ht => rs_bare _ _ _ ht) fun hp => inv_bare hT _ _ _ hp
      · exact rs_next h (fun ht => rs_bare _ _ _ ht) fun hp => inv_bare hT _ _ _ hp
      · by_cases h1 : (hdT ts).kind = 1
        · refine rs_next h (fun ht => ?_) fun hp => inv_ite (fun hs => inv_end hT _ _ _ _ _ ?_) fun _ => ?_
          · have e : setsT ts' = setsT ts := by unfold setsT; rw [sh_head h, sh_head ht]
            rw [e]
            exact rs_ite (fun hs => rs_next ht (fun ht => rs_end _ _ _ _ _ ht) fun hp => inv_end hT _ _ _ _ _ hp) fun _ => rs_end _ _ _ _ _ h
          · unfold setsT at hs
            simp only [Bool.and_eq_true, decide_eq_true_eq] at hs
            exact hT _ hp (by omega)
          · exact inv_bind (T.bin _ _ _ (by omega) h1 hp) fun n r hr => inv_bind (inv_must hT hr) fun _ r hr => hr
        · have e : setsT ts = false := by unfold setsT; simp [h1]
          have e' : setsT ts' = false := by unfold setsT; rw [sh_head h]; simp [h1]
          rw [e, e']
          exact rs_ite (fun h => by simp at h) fun _ => rs_end _ _ _ _ _ h
    · intro o ts ts' h; simp only [pIf, sh_head h]
      refine rs_next h (fun ht => rs_bind (rs_cond _ _ ht) (fun c t t' h => rs_bind (ih.block _ _ _ h) (fun b t t' h => ?_) ?_) ?_) ?_
      · simp only [sh_isT h]
        refine rs_ite (fun _ => ?_) fun _ => rs_ok h
        refine rs_next h (fun ht => ?_) fun hp => inv_ite (fun h' => inv_bind (J.iff _ _ hp (isT_kind h')) fun x r hr => hr) fun _ => inv_bind (J.block _ _ hp) fun x r hr => hr
        rw [sh_isT ht]
        exact rs_ite (fun _ => rs_bind (ih.iff _ _ _ ht) (fun x t t' h => rs_ok h) fun x t hp => hp) fun _ => rs_bind (ih.block _ _ _ ht) (fun x t t' h => rs_ok h) fun x t hp => hp
      · exact fun b t hp => inv_ite (fun h => by
          have ht := tail_is hT hp h
          exact inv_ite (fun h' => inv_bind (J.iff _ _ ht (isT_kind h')) fun x r hr => hr) fun _ => inv_bind (J.block _ _ ht) fun x r hr => hr) fun _ => hp
      · exact fun c t hp => inv_bind (J.block _ _ hp) fun b r hr => inv_ite (fun h => by
          have ht := tail_is hT hr h
          exact inv_ite (fun h' => inv_bind (J.iff _ _ ht (isT_kind h')) fun x r hr => hr) fun _ => inv_bind (J.block _ _ ht) fun x r hr => hr) fun _ => hr
      · exact fun hp => inv_bind (inv_cond hT _ _ hp) fun c r hr => inv_bind (J.block _ _ hr) fun b r hr => inv_ite (fun h => by
          have ht := tail_is hT hr h
          exact inv_ite (fun h' => inv_bind (J.iff _ _ ht (isT_kind h')) fun x r hr => hr) fun _ => inv_bind (J.block _ _ ht) fun x r hr => hr) fun _ => hr
theorem rs_fn {X : Nat} (f : Nat) {ts ts' : List Tok} (h : Sh X ts ts') : RS X (pFn f ts) (pFn f ts') := by
  unfold pFn
  have hT := past_tails X
  simp only [sh_head h, sh_isT h]
  have hB : ∀ (t : Tok) (r : List Tok), Past X r → PR.inv (Past X) ((mustT [40] r).bind fun _ r => (pRow f 2 [41] 0 r).bind fun l r => (pBlock f 0 r).bind fun b r => .ok (N.mk 2 t.text V.zero (isT [101, 120, 112, 111, 114, 116] ts) (l ++ [b]) ((hdT ts).pos : Int)) r) :=
    fun t r hr => inv_bind (inv_must hT hr) fun _ r hr => inv_bind ((invE hT f).row _ _ _ _ hr) fun l r hr => inv_bind ((invS hT f).block _ _ hr) fun b r hr => hr
  have key : ∀ u u', Sh X u u' → RS X ((mustT [102, 110] u).bind fun _ r => (nameT r).bind fun t r => (mustT [40] r).bind fun _ r => (pRow f 2 [41] 0 r).bind fun l r => (pBlock f 0 r).bind fun b r => .ok (N.mk 2 t.text V.zero (isT [101, 120, 112, 111, 114, 116] ts) (l ++ [b]) ((hdT ts).pos : Int)) r)
      ((mustT [102, 110] u').bind fun _ r => (nameT r).bind fun t r => (mustT [40] r).bind fun _ r => (pRow f 2 [41] 0 r).bind fun l r => (pBlock f 0 r).bind fun b r => .ok (N.mk 2 t.text V.zero (isT [101, 120, 112, 111, 114, 116] ts) (l ++ [b]) ((hdT ts).pos : Int)) r) := fun u u' h =>
    rs_bind (rs_must h) (fun _ t t' h => rs_bind (rs_name h) (fun nm t t' h => rs_bind (rs_must h) (fun _ t t' h => rs_bind ((simE X f).row _ _ _ _ _ h) (fun l t t' h => rs_bind ((simS X f).block _ _ _ h) (fun b t t' h => rs_ok h) fun b t hp => hp)
      fun l t hp => inv_bind ((invS hT f).block _ _ hp) fun b t hp => hp) fun _ t hp => inv_bind ((invE hT f).row _ _ _ _ hp) fun l r hr => inv_bind ((invS hT f).block _ _ hr) fun b r hr => hr) fun nm t hp => hB nm t hp)
      fun _ t hp => inv_bind (inv_name hT hp) fun nm t hp => hB nm t hp
  split
  · exact rs_next h (fun ht => key _ _ ht) fun hp => inv_bind (inv_must hT hp) fun _ t hp => inv_bind (inv_name hT hp) fun nm t hp => hB nm t hp
  · exact key _ _ h
theorem rs_fns {X : Nat} : ∀ (f : Nat) (acc : List N) {ts ts' : List Tok} (h : Sh X ts ts'), RS X (pFns f acc ts) (pFns f acc ts')
  | 0, acc, ts, ts', h => by rw [pFns]; trivial
  | f + 1, acc, ts, ts', h => by
    simp only [pFns, sh_head h]
    exact rs_ite (fun _ => rs_ok h) fun _ => rs_bind (rs_fn f h) (fun n t t' h => rs_fns f _ h) fun n t hp => inv_fns (past_tails X) f _ hp
end Go.Proofs.YtlnhhffhmeekoaaGreatDoor
