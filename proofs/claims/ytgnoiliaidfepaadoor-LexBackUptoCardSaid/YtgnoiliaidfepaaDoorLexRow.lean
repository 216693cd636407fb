/- Rows of tokens in memory, and the contract of the reference's All. -/
import Derived.Test.YtgnoiliaidfepaaDoorLexRef4
set_option linter.unusedVariables false
set_option linter.unusedSimpArgs false
namespace Go.Proofs.YtgnoiliaidfepaaDoor
open Go.RowKit Go.IntWalk

def tcells (t : Tok) : List Value := [.int .i64 (t.kind : Int), .string ⟨t.text.toArray⟩, .int .i64 (t.n : Int), .int .i64 (t.pos : Int)]
def tvals (l : List Tok) : List Value := l.flatMap tcells
theorem tvals_len (l : List Tok) : (tvals l).length = l.length * 4 := by
  induction l with
  | nil => rfl
  | cons a l ih => simp only [tvals, List.flatMap_cons, List.length_append, List.length_cons] at *; rw [ih]; simp [tcells]; omega
theorem tvals_append (l k : List Tok) : tvals (l ++ k) = tvals l ++ tvals k := by simp [tvals]
theorem tvals_one (l : List Tok) : ∀ u ∈ tvals l, u.oneCell' = true := by
  intro u hu
  simp only [tvals, List.mem_flatMap, tcells] at hu
  obtain ⟨t, _, h⟩ := hu
  simp only [List.mem_cons, List.not_mem_nil, or_false] at h
  rcases h with rfl | rfl | rfl | rfl <;> rfl
theorem Tryd.infoTok : (Tryd.prog.info? 41).map (fun i => (i.zero, i.size, i.bytes)) = some (some (.agg #[.int .i64 0, .string ⟨#[]⟩, .int .i64 0, .int .i64 0]), 4, 40) := by kernel_rfl
def OwnT (ok : Nat → Prop) (w : World) (v : Value) (l : List Tok) : Prop := OwnR 41 4 ok w v l.length (tvals l)
theorem opT_append {o : Oper} {a : Act} {Q : Exit → Act → World → Prop} {K : Act → World → Prop} {W w0 : World} {ok : Nat → Prop} {l : List Tok} (v : Value) (t : Tok)
    (s x : Operand) (ho : o.op = .call { callee := .builtin .append, args := #[s, x], argTypes := #[35, 35] })
    (cells : Array Value) (hc : cells = (tcells t).toArray) (c : Nat) (hs : a.eval s = v) (hx : a.eval x = .slice (some ⟨W.heap.size, 0, none⟩) 1 c)
    (HO : OwnT ok W v l) (HF : Fr ok w0 W) (hl : l.length ≤ 1000000) (hnew : ∀ k, W.heap.size ≤ k → ok k)
    (h : ∀ v1 w1, OwnT ok w1 v1 (l ++ [t]) → Fr ok w0 w1 → K (a.put o.dst v1) w1) :
    Oper.wp Tryd.prog o a (W.alloc (.cells cells 41)) K Q := by
  refine opR_append 35 1 (tcells t) Tryd.infoTok rfl (by omega) (by omega) Tryd.underlying35 s x ho cells hc c hs hx rfl (fun u hu => tvals_one [t] u (by simpa [tvals] using hu)) HO (by omega) hnew ?_
  intro v1 w1 h1 h2 h3
  refine h v1 w1 ?_ (h3 ok w0 HF HO.blk)
  unfold OwnT
  rw [tvals_append, List.length_append]
  simpa [tvals] using h1
theorem wpT_append {ops : Array Oper} {rest : List Oper} {o : Oper} {a : Act} {Q : Exit → Act → World → Prop} {W w0 : World} {ok : Nat → Prop} {l : List Tok} (v : Value) (t : Tok)
    (s x : Operand) (hgd : o.guard = none) (ho : o.op = .call { callee := .builtin .append, args := #[s, x], argTypes := #[35, 35] })
    (cells : Array Value) (hc : cells = (tcells t).toArray) (c : Nat) (hs : a.eval s = v) (hx : a.eval x = .slice (some ⟨W.heap.size, 0, none⟩) 1 c)
    (HO : OwnT ok W v l) (HF : Fr ok w0 W) (hl : l.length ≤ 1000000) (hnew : ∀ k, W.heap.size ≤ k → ok k)
    (h : ∀ v1 w1, OwnT ok w1 v1 (l ++ [t]) → Fr ok w0 w1 → wpList Tryd.prog ops Q rest (a.put o.dst v1) w1) :
    wpList Tryd.prog ops Q (o :: rest) a (W.alloc (.cells cells 41)) :=
  wpList_plain hgd fun K hK => opT_append v t s x ho cells hc c hs hx HO HF hl hnew fun v1 w1 h1 h2 => hK _ _ (h v1 w1 h1 h2)
theorem stT_append {ops : Array Oper} {o : Oper} {a : Act} {Q : Exit → Act → World → Prop} {K : Act → World → Prop} {E : Prop} {W w0 : World} {ok : Nat → Prop} {l : List Tok} (v : Value) (t : Tok)
    (s x : Operand) (hgd : o.guard = none) (ho : o.op = .call { callee := .builtin .append, args := #[s, x], argTypes := #[35, 35] })
    (cells : Array Value) (hc : cells = (tcells t).toArray) (c : Nat) (hs : a.eval s = v) (hx : a.eval x = .slice (some ⟨W.heap.size, 0, none⟩) 1 c)
    (HO : OwnT ok W v l) (HF : Fr ok w0 W) (hl : l.length ≤ 1000000) (hnew : ∀ k, W.heap.size ≤ k → ok k)
    (h : ∀ v1 w1, OwnT ok w1 v1 (l ++ [t]) → Fr ok w0 w1 → K (a.put o.dst v1) w1) :
    if Region.wanted o (yielded ops a.tmps) = true then Oper.wp Tryd.prog o a (W.alloc (.cells cells 41)) K Q else E := by
  rw [if_pos (by simp [Region.wanted, hgd])]
  exact opT_append v t s x ho cells hc c hs hx HO HF hl hnew h

theorem tokS_err {l : List UInt8} {e : Nat} (h : tokS l = .error e) : 161 ≤ e ∧ e ≤ 164 := by
  unfold tokS at h
  simp only [] at h
  repeat' split at h
  all_goals first | (injection h with h; omega) | cases h

/-- what All answers -/
def AllPost (w : World) (r : Except (Nat × Nat) (List Tok)) (e : Ending) (w' : World) : Prop := Below w.heap.size w w' ∧ match r with
  | .error (p, n) => e = .returned (.tuple #[.slice none 0 0, .int .i64 (p : Int), .int .i64 (n : Int)])
  | .ok toks => ∃ v, e = .returned (.tuple #[v, .int .i64 0, .int .i64 0]) ∧ OwnT (behind w) w' v toks
theorem skip_at (s : ByteArray) (k : Nat) (hk : k ≤ s.size) : s.data.toList.drop (s.size - (skip false (s.data.toList.drop k)).length) = skip false (s.data.toList.drop k) := by
  have h1 := skip_len false (s.data.toList.drop k)
  have h2 := skip_drop false (s.data.toList.drop k)
  rw [List.length_drop, data_len] at h1 h2
  rw [List.drop_drop] at h2
  rw [show s.size - (skip false (s.data.toList.drop k)).length = k + (s.size - k - (skip false (s.data.toList.drop k)).length) by omega]
  exact h2.symm
theorem skip_idem (b : Bool) (l : List UInt8) : skip false (skip b l) = skip b l := by
  induction l generalizing b with
  | nil => simp [skip]
  | cons c r ih =>
    cases b <;> simp only [skip]
    · split
      · exact ih false
      · split
        · exact ih true
        · rename_i h1 h2
          simp only [skip, if_neg h1, if_neg h2]
    · split
      · exact ih false
      · exact ih true

set_option maxRecDepth 20000 in
set_option maxHeartbeats 400000 in
theorem ref_All (s : ByteArray) (w : World) (hsz : s.size ≤ 9223372036854775807) :
    Calls Tryd.prog 16 #[.string s] w fun e w' => AllPost w (allS s.data.toList) e w' := by
  by_cases h0 : 8192 < s.size
  · have H : Hid (allS s.data.toList = .error (0, 160)) := by
      show _ = _
      rw [allS, if_pos (by rw [data_len]; exact h0)]
    go_enter Tryd.func16, Tryd.ntmps16
    go_wp2
    go_ret3
    rw [H.out]
    exact ⟨Below.refl _ _, rfl⟩
  have hs : s.size ≤ 1048576 := by omega
  have Hall : Hid (allS s.data.toList = allFrom (skip false s.data.toList) (s.size - (skip false s.data.toList).length) []) := by
    show _ = _
    rw [allS, if_neg (by rw [data_len]; exact h0), allFrom_skip, data_len, Nat.zero_add]
  have hsk := skip_at s 0 (by omega)
  rw [List.drop_zero] at hsk
  have hskl : (skip false s.data.toList).length ≤ s.size := by have := skip_len false s.data.toList; rwa [data_len] at this
  have hbl := fun W => ref_blanks s 0 W hs (by omega)
  rw [List.drop_zero] at hbl
  have Hsk := Lib.hid hsk
  have Hskl := Lib.hid hskl
  clear hsk
  go_enter Tryd.func16, Tryd.ntmps16
  go_wp2_with (go_at_call 39; refine (hbl _).mono ?_; rintro e w' ⟨rfl, rfl⟩)
  go_loopw [5, 6] (fun v5 v6 wr => ∃ (k : Nat) (acc : List Tok), k ≤ s.size ∧ v6 = .int .i64 k ∧ acc.length ≤ k ∧ OwnT (behind w) wr v5 acc ∧ Fr (behind w) w wr ∧ skip false (s.data.toList.drop k) = s.data.toList.drop k ∧ allS s.data.toList = allFrom (s.data.toList.drop k) k acc) (fun _ i _ => s.size - (intOf i).toNat)
  case atStart =>
    exact ⟨_, [], by omega, rfl, by simp, OwnR.nil _ _ _ _, Fr.refl _ _, by rw [Hsk.out, skip_idem], by rw [Hsk.out, Hall.out]⟩
  case round =>
    obtain ⟨k, acc, hk, rfl, hacc, hO, hF, hsk, hall⟩ := hrel
    have HO := Lib.hid hO
    have HF := Lib.hid hF
    have Hsk := Lib.hid hsk
    have HA := Lib.hid hall
    clear hO hF hsk hall hbl
    by_cases hlt : k < s.size
    · have htok := fun W => ref_token s k W hs hlt
      have hne : s.data.toList.drop k ≠ [] := by rw [sB_drop s k hlt]; simp
      rcases hT : tokS (s.data.toList.drop k) with e | ⟨kd, t, n, m⟩
      · have he := tokS_err hT
        have Hres := Lib.hid (allFrom_err (pos := k) (acc := acc) hne Hsk.out hT)
        rw [hT] at htok
        replace htok : ∀ W : World, Calls Tryd.prog 40 #[.string s, .int .i64 k] W fun e' w' => e' = .returned (.tuple #[tokV 0 [] 0 0, .int .i64 0, .int .i64 (e : Int)]) ∧ Below W.heap.size W w' := htok
        have hez : ((e : Int) != 0) = true := by simp; omega
        clear hT hne
        go_wp2_with (go_at_call 40; refine (htok _).mono ?_; rintro e' w1 ⟨rfl, hb1⟩)
        go_ret3
        rw [HA.out, Hres.out]
        exact ⟨(((HF.out.below hb1).alloc _)).to_below fun j hj => by simp [behind]; omega, rfl⟩
      · have hm := tokS_len hne hT
        rw [List.length_drop, data_len] at hm
        have Hres := Lib.hid (allFrom_tok (pos := k) (acc := acc) hne Hsk.out hT)
        rw [hT] at htok
        replace htok : ∀ W : World, Calls Tryd.prog 40 #[.string s, .int .i64 k] W fun e' w' => e' = .returned (.tuple #[tokV kd t n k, .int .i64 ((k + m : Nat) : Int), .int .i64 0]) ∧ Below W.heap.size W w' := htok
        have hbl := fun W => ref_blanks s (k + m) W hs (by omega)
        have hsk2 := skip_at s (k + m) (by omega)
        have hskl2 := skip_len false (s.data.toList.drop (k + m))
        rw [List.length_drop, data_len] at hskl2
        have Hs2 := Lib.hid hsk2
        clear hT hne hsk2
        go_wp2_with (first
          | (go_at_call 40; refine (htok _).mono ?_; rintro e' w1 ⟨rfl, hb1⟩)
          | (go_at_call 39; refine (hbl _).mono ?_; rintro e' w' ⟨rfl, rfl⟩)
          | (at_builtin; refine wpT_append _ ⟨kd, t, n, k⟩ (.tmp 30) (.tmp 32) rfl rfl _ rfl 1 rfl (by rw [World.size_alloc]; rfl) (OwnR.alloc (OwnR.below HO.out hb1) _) ((HF.out.below hb1).alloc _) (by omega) (fun j h => Nat.le_trans ((HF.out.below hb1).alloc _).size h) ?_; intro v1 w2 hO1 hF1; clear HO HF))
        exact ⟨⟨_, acc ++ [⟨kd, t, n, k⟩], by omega, rfl, by simp; omega, hO1, hF1, by rw [Hs2.out, skip_idem], by
          rw [HA.out, Hres.out, List.drop_drop, allFrom_skip, Hs2.out, List.length_drop, data_len]
          congr 1
          omega⟩, by simp [intOf]; omega⟩
    · have Hres := Lib.hid (allFrom_end (s.data.toList.drop k) k acc (by rw [Hsk.out, drop_none s k (by omega)]))
      go_wp2_with (at_builtin; refine wpT_append _ ⟨0, [], 0, s.size⟩ (.tmp 37) (.tmp 41) rfl rfl _ rfl 1 rfl rfl HO.out HF.out (by omega) (fun j h => Nat.le_trans HF.out.size h) ?_; intro v1 w2 hO1 hF1; clear HO HF)
      go_ret3
      rw [HA.out, Hres.out, List.length_drop, data_len, show k + (s.size - k) = s.size by omega]
      exact ⟨hF1.to_below fun j hj => by simp [behind]; omega, _, rfl, hO1⟩
end Go.Proofs.YtgnoiliaidfepaaDoor
