/- Plain law of LexAgain: what the law writes, where its tokens stand, and what they read as. -/
import Derived.Test.YtgnoiliaidfepaaDoorLexRound
import Derived.Test.YtgnoiliaidfepaaDoorLexReads2
set_option linter.unusedVariables false
set_option linter.unusedSimpArgs false
namespace Go.Proofs.YtgnoiliaidfepaaDoor

theorem joinL_snoc (ts : List Tok) (t : Tok) : joinL (ts ++ [t]) = joinL ts ++ 32 :: writtenS t := by
  induction ts with
  | nil => simp [joinL]
  | cons u ts ih => simp only [List.cons_append, joinL, ih, List.append_assoc]
theorem joinL_pos {ts : List Tok} (h : ts ≠ []) : 0 < (joinL ts).length := by
  cases ts with
  | nil => exact absurd rfl h
  | cons u ts => simp [joinL]
theorem joinS_snoc {ts : List Tok} (h : ts ≠ []) (t : Tok) : joinS (ts ++ [t]) = joinS ts ++ 32 :: writtenS t := by
  cases ts with
  | nil => exact absurd rfl h
  | cons u ts => rw [joinS, joinL_snoc, joinS, joinL]; rfl
theorem joinS_one (t : Tok) : joinS [t] = writtenS t := by simp [joinS, joinL]
/-- where token i stands -/
def plc (ts : List Tok) (i : Nat) : Nat := (joinL (ts.take i)).length
theorem plc_zero (ts : List Tok) : plc ts 0 = 0 := rfl
theorem plc_pos {ts : List Tok} {i : Nat} (h : 0 < i) (hi : i ≤ ts.length) : plc ts i = (joinS (ts.take i)).length + 1 := by
  have hne : ts.take i ≠ [] := by
    intro e
    have := congrArg List.length e
    rw [List.length_take, List.length_nil] at this
    omega
  have := joinL_pos hne
  rw [plc, joinS, List.length_tail]
  omega
theorem placed_len (ts : List Tok) : ∀ p, (placed p ts).length = ts.length := by
  induction ts with
  | nil => intro p; rfl
  | cons u ts ih => intro p; simp [placed, ih]
theorem placed_at (ts : List Tok) : ∀ (p i : Nat), i < ts.length → tAt (placed p ts) i = ⟨(tAt ts i).kind, (tAt ts i).text, (tAt ts i).n, p + plc ts i + 1⟩ := by
  induction ts with
  | nil => intro p i h; simp at h
  | cons u ts ih =>
    intro p i h
    cases i with
    | zero => simp [placed, tAt, plc, joinL]
    | succ i =>
      have := ih (p + 1 + (writtenS u).length) i (by simpa using h)
      simp only [placed, tAt, List.getD_cons_succ] at this ⊢
      rw [this]
      simp only [plc, List.take_succ_cons, joinL, List.length_cons, List.length_append]
      congr 1
      omega
/-- the tokens read again -/
def againS (ts : List Tok) : List Tok := (placed 0 ts).map fun t => ⟨t.kind, t.text, t.n, t.pos - 1⟩
theorem again_len (ts : List Tok) : (againS ts).length = ts.length := by rw [againS, List.length_map, placed_len]
theorem again_at {ts : List Tok} {i : Nat} (h : i < ts.length) : tAt (againS ts) i = ⟨(tAt ts i).kind, (tAt ts i).text, (tAt ts i).n, plc ts i⟩ := by
  have h1 := placed_at ts 0 i h
  have hl : i < (placed 0 ts).length := by rw [placed_len]; exact h
  unfold againS
  simp only [tAt, List.getD_eq_getElem?_getD, List.getElem?_map, List.getElem?_eq_getElem hl, Option.map_some, Option.getD_some] at h1 ⊢
  rw [h1]
  simp
theorem allS_again {l : List UInt8} {toks : List Tok} (h : allS l = .ok toks) (hs : (joinS toks).length ≤ 8192) : allS (joinS toks) = .ok (againS toks) := by
  obtain ⟨ts, q, rfl, hg⟩ := allS_good h
  rw [allS, if_neg (by omega), all_again hg q]
  rfl
theorem good_tok_bound {t : Tok} (h : Good t) : t.n < 9223372036854775808 ∧ t.text.length ≤ 8192 ∧ (writtenS t).length ≤ 8190 := by
  cases h with
  | key t p h hw hl =>
    have : t ∈ kwords := by simpa [isKeyword] using h
    have hk : t.length ≤ 8 := (show ∀ x ∈ kwords, x.length ≤ 8 by decide) t this
    simp [writtenS]; omega
  | name t p h hw hl hn => simp [writtenS]; omega
  | int n p h =>
    have hd := (decF_facts 20 n (by omega) (by omega)).2.2.2.2
    have e : writtenS ⟨3, [], n, p⟩ = decF 20 n := rfl
    rw [e]
    simp
    omega
  | bytes t p h =>
    have hq := quoteL_le t
    have e : writtenS ⟨4, t, 0, p⟩ = quoteS t := rfl
    rw [e]
    simp [quoteS]
    omega
  | sign t p h =>
    rcases h with h | ⟨c, rfl, h⟩
    · have := pairs_len h
      simp [writtenS]; omega
    · simp [writtenS]
theorem all_bound {l : List UInt8} {toks : List Tok} (h : allS l = .ok toks) : ∀ i, i < toks.length → (tAt toks i).n < 9223372036854775808 ∧ (tAt toks i).text.length ≤ 8192 ∧ (writtenS (tAt toks i)).length ≤ 8190 := by
  obtain ⟨ts, q, rfl, hg⟩ := allS_good h
  intro i hi
  have hm : tAt (ts ++ [⟨0, [], 0, q⟩]) i ∈ ts ++ [⟨0, [], 0, q⟩] := by
    simp only [tAt, List.getD_eq_getElem?_getD, List.getElem?_eq_getElem hi, Option.getD_some]
    exact List.getElem_mem _
  rcases List.mem_append.1 hm with h1 | h1
  · exact good_tok_bound (hg _ h1)
  · rw [List.mem_singleton.1 h1]
    simp [writtenS]
theorem take_snoc_tok (ts : List Tok) (k : Nat) (h : k < ts.length) : ts.take (k + 1) = ts.take k ++ [tAt ts k] := by
  rw [List.take_succ_eq_append_getElem h]
  simp [tAt, List.getElem?_eq_getElem h]
theorem joinL_len {ts : List Tok} (hb : ∀ i, i < ts.length → (writtenS (tAt ts i)).length ≤ 8190) : ∀ k, k ≤ ts.length → (joinL (ts.take k)).length ≤ k * 8191 := by
  intro k
  induction k with
  | zero => intro _; simp [joinL]
  | succ k ih =>
    intro h
    have h1 := ih (by omega)
    have h2 := hb k (by omega)
    rw [take_snoc_tok ts k (by omega), joinL_snoc, List.length_append, List.length_cons]
    omega
theorem joinS_len (ts : List Tok) : (joinS ts).length ≤ (joinL ts).length := by rw [joinS, List.length_tail]; omega
end Go.Proofs.YtgnoiliaidfepaaDoor
