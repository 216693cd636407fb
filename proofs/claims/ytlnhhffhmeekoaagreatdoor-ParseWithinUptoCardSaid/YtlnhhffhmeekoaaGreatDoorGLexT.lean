/- Rows of tokens in memory, and the contract of the reference's All. Contracts of lex.sign and lex.token. Contract of lex.token. Contract of lex.All. -/
import Derived.Test.YtlnhhffhmeekoaaGreatDoorGLexR
import Derived.Lib.IndexBytes
import Derived.WalkMore
set_option linter.unusedVariables false
set_option linter.unusedSimpArgs false
namespace Go.Proofs.YtlnhhffhmeekoaaGreatDoor
open Go.RowKit Go.IntWalk

def tcells (t : Tok) : List Value := [.int .i64 (t.kind : Int), .string ⟨t.text.toArray⟩, .int .i64 (t.n : Int), .int .i64 (t.pos : Int)]
def tvals (l : List Tok) : List Value := l.flatMap tcells
theorem tvals_len (l : List Tok) : (tvals l).length = l.length * 4 := by
  induction l with
  | nil => rfl
  | cons a l ih => simp only [tvals, List.flatMap_cons, List.length_append, List.length_cons] at *; rw [ih]; simp [tcells]; omega
theorem tvals_append (l k : List Tok) : tvals (l ++ k) = tvals l ++ tvals k := by simp [tvals]
theorem tvals_one (l : List Tok) : ∀ u ∈ tvals l, u.oneCell' = true := by
  intro u hu
  simp only [tvals, List.mem_flatMap, tcells] at hu
  obtain ⟨t, _, h⟩ := hu
  simp only [List.mem_cons, List.not_mem_nil, or_false] at h
  rcases h with rfl | rfl | rfl | rfl <;> rfl
theorem Tryz.infoTok : (Tryz.prog.info? 41).map (fun i => (i.zero, i.size, i.bytes)) = some (some (.agg #[.int .i64 0, .string ⟨#[]⟩, .int .i64 0, .int .i64 0]), 4, 40) := by kernel_rfl
def OwnT (ok : Nat → Prop) (w : World) (v : Value) (l : List Tok) : Prop := OwnR 41 4 ok w v l.length (tvals l)
theorem opT_append {o : Oper} {a : Act} {Q : Exit → Act → World → Prop} {K : Act → World → Prop} {W w0 : World} {ok : Nat → Prop} {l : List Tok} (v : Value) (t : Tok)
    (s x : Operand) (ho : o.op = .call { callee := .builtin .append, args := #[s, x], argTypes := #[37, 37] })
    (cells : Array Value) (hc : cells = (tcells t).toArray) (c : Nat) (hs : a.eval s = v) (hx : a.eval x = .slice (some ⟨W.heap.size, 0, none⟩) 1 c)
    (HO : OwnT ok W v l) (HF : Fr ok w0 W) (hl : l.length ≤ 1000000) (hnew : ∀ k, W.heap.size ≤ k → ok k)
    (h : ∀ v1 w1, OwnT ok w1 v1 (l ++ [t]) → Fr ok w0 w1 → K (a.put o.dst v1) w1) :
    Oper.wp Tryz.prog o a (W.alloc (.cells cells 41)) K Q := by
  refine opR_append 37 1 (tcells t) Tryz.infoTok rfl (by omega) (by omega) Tryz.underlying37 s x ho cells hc c hs hx rfl (fun u hu => tvals_one [t] u (by simpa [tvals] using hu)) HO (by omega) hnew ?_
  intro v1 w1 h1 h2 h3
  refine h v1 w1 ?_ (h3 ok w0 HF HO.blk)
  unfold OwnT
  rw [tvals_append, List.length_append]
  simpa [tvals] using h1
theorem wpT_append {ops : Array Oper} {rest : List Oper} {o : Oper} {a : Act} {Q : Exit → Act → World → Prop} {W w0 : World} {ok : Nat → Prop} {l : List Tok} (v : Value) (t : Tok)
    (s x : Operand) (hgd : o.guard = none) (ho : o.op = .call { callee := .builtin .append, args := #[s, x], argTypes := #[37, 37] })
    (cells : Array Value) (hc : cells = (tcells t).toArray) (c : Nat) (hs : a.eval s = v) (hx : a.eval x = .slice (some ⟨W.heap.size, 0, none⟩) 1 c)
    (HO : OwnT ok W v l) (HF : Fr ok w0 W) (hl : l.length ≤ 1000000) (hnew : ∀ k, W.heap.size ≤ k → ok k)
    (h : ∀ v1 w1, OwnT ok w1 v1 (l ++ [t]) → Fr ok w0 w1 → wpList Tryz.prog ops Q rest (a.put o.dst v1) w1) :
    wpList Tryz.prog ops Q (o :: rest) a (W.alloc (.cells cells 41)) :=
  wpList_plain hgd fun K hK => opT_append v t s x ho cells hc c hs hx HO HF hl hnew fun v1 w1 h1 h2 => hK _ _ (h v1 w1 h1 h2)
theorem stT_append {ops : Array Oper} {o : Oper} {a : Act} {Q : Exit → Act → World → Prop} {K : Act → World → Prop} {E : Prop} {W w0 : World} {ok : Nat → Prop} {l : List Tok} (v : Value) (t : Tok)
    (s x : Operand) (hgd : o.guard = none) (ho : o.op = .call { callee := .builtin .append, args := #[s, x], argTypes := #[37, 37] })
    (cells : Array Value) (hc : cells = (tcells t).toArray) (c : Nat) (hs : a.eval s = v) (hx : a.eval x = .slice (some ⟨W.heap.size, 0, none⟩) 1 c)
    (HO : OwnT ok W v l) (HF : Fr ok w0 W) (hl : l.length ≤ 1000000) (hnew : ∀ k, W.heap.size ≤ k → ok k)
    (h : ∀ v1 w1, OwnT ok w1 v1 (l ++ [t]) → Fr ok w0 w1 → K (a.put o.dst v1) w1) :
    if Region.wanted o (yielded ops a.tmps) = true then Oper.wp Tryz.prog o a (W.alloc (.cells cells 41)) K Q else E := by
  rw [if_pos (by simp [Region.wanted, hgd])]
  exact opT_append v t s x ho cells hc c hs hx HO HF hl hnew h

theorem tokS_err {l : List UInt8} {e : Nat} (h : tokS l = .error e) : 161 ≤ e ∧ e ≤ 164 := by
  unfold tokS at h
  simp only [] at h
  repeat' split at h
  all_goals first | (injection h with h; omega) | cases h

/-- what All answers -/
def AllPost (w : World) (r : Except (Nat × Nat) (List Tok)) (e : Ending) (w' : World) : Prop := Below w.heap.size w w' ∧ match r with
  | .error (p, n) => e = .returned (.tuple #[.slice none 0 0, .int .i64 (p : Int), .int .i64 (n : Int)])
  | .ok toks => ∃ v, e = .returned (.tuple #[v, .int .i64 0, .int .i64 0]) ∧ OwnT (behind w) w' v toks
theorem skip_at (s : ByteArray) (k : Nat) (hk : k ≤ s.size) : s.data.toList.drop (s.size - (skip false (s.data.toList.drop k)).length) = skip false (s.data.toList.drop k) := by
  have h1 := skip_len false (s.data.toList.drop k)
  have h2 := skip_drop false (s.data.toList.drop k)
  rw [List.length_drop, data_len] at h1 h2
  rw [List.drop_drop] at h2
  rw [show s.size - (skip false (s.data.toList.drop k)).length = k + (s.size - k - (skip false (s.data.toList.drop k)).length) by omega]
  exact h2.symm
theorem skip_idem (b : Bool) (l : List UInt8) : skip false (skip b l) = skip b l := by
  induction l generalizing b with
  | nil => simp [skip]
  | cons c r ih =>
    cases b <;> simp only [skip]
    · split
      · exact ih false
      · split
        · exact ih true
        · rename_i h1 h2
          simp only [skip, if_neg h1, if_neg h2]
    · split
      · exact ih false
      · exact ih true

set_option maxRecDepth 20000 in
set_option maxHeartbeats 400000 in
theorem ref_All (s : ByteArray) (w : World) (hsz : s.size ≤ 9223372036854775807) :
    Calls Tryz.prog 35 #[.string s] w fun e w' => AllPost w (allS s.data.toList) e w' := by
  by_cases h0 : 8192 < s.size
  · have H : Hid (allS s.data.toList = .error (0, 160)) := by
      show _ = _
      rw [allS, if_pos (by rw [data_len]; exact h0)]
    go_enter Tryz.func35, Tryz.ntmps35
    go_wp2
    go_ret3
    rw [H.out]
    exact ⟨Below.refl _ _, rfl⟩
  have hs : s.size ≤ 1048576 := by omega
  have Hall : Hid (allS s.data.toList = allFrom (skip false s.data.toList) (s.size - (skip false s.data.toList).length) []) := by
    show _ = _
    rw [allS, if_neg (by rw [data_len]; exact h0), allFrom_skip, data_len, Nat.zero_add]
  have hsk := skip_at s 0 (by omega)
  rw [List.drop_zero] at hsk
  have hskl : (skip false s.data.toList).length ≤ s.size := by have := skip_len false s.data.toList; rwa [data_len] at this
  have hbl := fun W => ref_blanks s 0 W hs (by omega)
  rw [List.drop_zero] at hbl
  have Hsk := Lib.hid hsk
  have Hskl := Lib.hid hskl
  clear hsk
  go_enter Tryz.func35, Tryz.ntmps35
  go_wp2_with (go_at_call 64; refine (hbl _).mono ?_; rintro e w' ⟨rfl, rfl⟩)
  go_loopw [5, 6] (fun v5 v6 wr => ∃ (k : Nat) (acc : List Tok), k ≤ s.size ∧ v6 = .int .i64 k ∧ acc.length ≤ k ∧ OwnT (behind w) wr v5 acc ∧ Fr (behind w) w wr ∧ skip false (s.data.toList.drop k) = s.data.toList.drop k ∧ allS s.data.toList = allFrom (s.data.toList.drop k) k acc) (fun _ i _ => s.size - (intOf i).toNat)
  case atStart =>
    exact ⟨_, [], by omega, rfl, by simp, OwnR.nil _ _ _ _, Fr.refl _ _, by rw [Hsk.out, skip_idem], by rw [Hsk.out, Hall.out]⟩
  case round =>
    obtain ⟨k, acc, hk, rfl, hacc, hO, hF, hsk, hall⟩ := hrel
    have HO := Lib.hid hO
    have HF := Lib.hid hF
    have Hsk := Lib.hid hsk
    have HA := Lib.hid hall
    clear hO hF hsk hall hbl
    by_cases hlt : k < s.size
    · have htok := fun W => ref_token s k W hs hlt
      have hne : s.data.toList.drop k ≠ [] := by rw [sB_drop s k hlt]; simp
      rcases hT : tokS (s.data.toList.drop k) with e | ⟨kd, t, n, m⟩
      · have he := tokS_err hT
        have Hres := Lib.hid (allFrom_err (pos := k) (acc := acc) hne Hsk.out hT)
        rw [hT] at htok
        replace htok : ∀ W : World, Calls Tryz.prog 65 #[.string s, .int .i64 k] W fun e' w' => e' = .returned (.tuple #[tokV 0 [] 0 0, .int .i64 0, .int .i64 (e : Int)]) ∧ Below W.heap.size W w' := htok
        have hez : ((e : Int) != 0) = true := by simp; omega
        clear hT hne
        go_wp2_with (go_at_call 65; refine (htok _).mono ?_; rintro e' w1 ⟨rfl, hb1⟩)
        go_ret3
        rw [HA.out, Hres.out]
        exact ⟨(((HF.out.below hb1).alloc _)).to_below fun j hj => by simp [behind]; omega, rfl⟩
      · have hm := tokS_len hne hT
        rw [List.length_drop, data_len] at hm
        have Hres := Lib.hid (allFrom_tok (pos := k) (acc := acc) hne Hsk.out hT)
        rw [hT] at htok
        replace htok : ∀ W : World, Calls Tryz.prog 65 #[.string s, .int .i64 k] W fun e' w' => e' = .returned (.tuple #[tokV kd t n k, .int .i64 ((k + m : Nat) : Int), .int .i64 0]) ∧ Below W.heap.size W w' := htok
        have hbl := fun W => ref_blanks s (k + m) W hs (by omega)
        have hsk2 := skip_at s (k + m) (by omega)
        have hskl2 := skip_len false (s.data.toList.drop (k + m))
        rw [List.length_drop, data_len] at hskl2
        have Hs2 := Lib.hid hsk2
        clear hT hne hsk2
        go_wp2_with (first
          | (go_at_call 65; refine (htok _).mono ?_; rintro e' w1 ⟨rfl, hb1⟩)
          | (go_at_call 64; refine (hbl _).mono ?_; rintro e' w' ⟨rfl, rfl⟩)
          | (at_builtin; refine wpT_append _ ⟨kd, t, n, k⟩ (.tmp 30) (.tmp 32) rfl rfl _ rfl 1 rfl (by rw [World.size_alloc]; rfl) (OwnR.alloc (OwnR.below HO.out hb1) _) ((HF.out.below hb1).alloc _) (by omega) (fun j h => Nat.le_trans ((HF.out.below hb1).alloc _).size h) ?_; intro v1 w2 hO1 hF1; clear HO HF))
        exact ⟨⟨_, acc ++ [⟨kd, t, n, k⟩], by omega, rfl, by simp; omega, hO1, hF1, by rw [Hs2.out, skip_idem], by
          rw [HA.out, Hres.out, List.drop_drop, allFrom_skip, Hs2.out, List.length_drop, data_len]
          congr 1
          omega⟩, by simp [intOf]; omega⟩
    · have Hres := Lib.hid (allFrom_end (s.data.toList.drop k) k acc (by rw [Hsk.out, drop_none s k (by omega)]))
      go_wp2_with (at_builtin; refine wpT_append _ ⟨0, [], 0, s.size⟩ (.tmp 37) (.tmp 41) rfl rfl _ rfl 1 rfl rfl HO.out HF.out (by omega) (fun j h => Nat.le_trans HF.out.size h) ?_; intro v1 w2 hO1 hF1; clear HO HF)
      go_ret3
      rw [HA.out, Hres.out, List.length_drop, data_len, show k + (s.size - k) = s.size by omega]
      exact ⟨hF1.to_below fun j hj => by simp [behind]; omega, _, rfl, hO1⟩
end Go.Proofs.YtlnhhffhmeekoaaGreatDoor
namespace Go.Proofs.YtlnhhffhmeekoaaGreatDoor
open Go.RowKit Go.IntWalk

theorem sign_index (c : UInt8) : Lib.indexByte [40, 41, 123, 125, 91, 93, 44, 59, 58, 46, 61, 60, 62, 43, 45, 42, 47, 37, 33] c = if singles.contains c then Lib.indexByte singles c else -1 := by
  have key : ∀ n : Fin 256, Lib.indexByte [40, 41, 123, 125, 91, 93, 44, 59, 58, 46, 61, 60, 62, 43, 45, 42, 47, 37, 33] (UInt8.ofNat n.val) = if singles.contains (UInt8.ofNat n.val) then Lib.indexByte singles (UInt8.ofNat n.val) else -1 := by decide +kernel
  have := key ⟨c.toNat, c.toNat_lt⟩
  simpa using this
theorem sign_index_pos (c : UInt8) (h : singles.contains c = true) : 0 ≤ Lib.indexByte singles c := by
  have key : ∀ n : Fin 256, singles.contains (UInt8.ofNat n.val) = true → 0 ≤ Lib.indexByte singles (UInt8.ofNat n.val) := by decide +kernel
  have := key ⟨c.toNat, c.toNat_lt⟩
  simp only [UInt8.ofNat_toNat] at this
  exact this h
theorem sign_call (x : UInt8) (w : World) :
    Calls Tryz.prog 140 #[.string ⟨#[40, 41, 123, 125, 91, 93, 44, 59, 58, 46, 61, 60, 62, 43, 45, 42, 47, 37, 33]⟩, .int .u8 x.toNat] w fun e w' => ∃ z : Int, e = .returned (.int .i64 z) ∧ (singles.contains x = true → 0 ≤ z) ∧ (singles.contains x = false → z = -1) ∧ w' = w := by
  have h := Tryz.strings_IndexByte ⟨#[40, 41, 123, 125, 91, 93, 44, 59, 58, 46, 61, 60, 62, 43, 45, 42, 47, 37, 33]⟩ (x.toNat : Int) w
  have e : ((x.toNat : Int)).toNat.toUInt8 = x := by simp
  rw [e] at h
  refine h.mono fun e w' ⟨h1, h2⟩ => ⟨_, h1, ?_, ?_, h2⟩
  · intro hc
    show 0 ≤ Lib.indexByte [40, 41, 123, 125, 91, 93, 44, 59, 58, 46, 61, 60, 62, 43, 45, 42, 47, 37, 33] x
    rw [sign_index, if_pos hc]; exact sign_index_pos x hc
  · intro hc
    show Lib.indexByte [40, 41, 123, 125, 91, 93, 44, 59, 58, 46, 61, 60, 62, 43, 45, 42, 47, 37, 33] x = -1
    rw [sign_index, if_neg (by rw [hc]; simp)]

theorem lex_sign (s : ByteArray) (w : World) (hs : s.size ≤ 1048576) (h0 : 0 < s.size) :
    Calls Tryz.prog 85 #[.string s] w fun e w' => e = .returned (.string ⟨(signS s.data.toList).toArray⟩) ∧ Below w.heap.size w w' := by
  have hix := sB_lit s 0 0 rfl h0
  have hd := sB_drop s 0 h0
  rw [List.drop_zero] at hd
  have hhd : s.data.toList.headD 0 = sB s 0 := by rw [hd]; rfl
  have hx1 : s.extract 0 1 = ⟨(s.data.toList.take 1).toArray⟩ := by have := ext_at s 0 1 (by omega); simpa using this
  have hsg : Hid (signS s.data.toList = if pairs.contains (s.data.toList.take 2) then s.data.toList.take 2 else if singles.contains (sB s 0) then s.data.toList.take 1 else []) := by
    show _ = _
    rw [signS, hhd]
  generalize sB s 0 = c at hix hhd hd hsg
  have hc : c.toNat < 256 := c.toNat_lt
  clear hd hhd
  by_cases h1 : 1 < s.size
  · have hx2 : s.extract 0 2 = ⟨(s.data.toList.take 2).toArray⟩ := by have := ext_at s 0 2 (by omega); simpa using this
    generalize s.data.toList.take 2 = t2 at hx2 hsg
    by_cases hp : pairs.contains t2 = true
    · have hm : t2 = [61, 61] ∨ t2 = [33, 61] ∨ t2 = [60, 61] ∨ t2 = [62, 61] ∨ t2 = [38, 38] ∨ t2 = [124, 124] := by
        rw [List.contains_iff_mem] at hp
        simpa [pairs] using hp
      have Hsg : Hid (signS s.data.toList = t2) := by show _ = _; rw [hsg.out, if_pos hp]
      clear hp hsg
      rcases hm with rfl | rfl | rfl | rfl | rfl | rfl
      all_goals (
        go_enter Tryz.func85, Tryz.ntmps85
        go_wp2
        go_ret
        rw [Hsg.out]
        exact ⟨rfl, Below.refl _ _⟩)
    · have hm : ¬ (t2 = [61, 61] ∨ t2 = [33, 61] ∨ t2 = [60, 61] ∨ t2 = [62, 61] ∨ t2 = [38, 38] ∨ t2 = [124, 124]) := by
        intro h
        apply hp
        rw [List.contains_iff_mem]
        simpa [pairs] using h
      have Hsg : Hid (signS s.data.toList = if singles.contains c then s.data.toList.take 1 else []) := by show _ = _; rw [hsg.out, if_neg hp]
      simp only [not_or] at hm
      obtain ⟨m1, m2, m3, m4, m5, m6⟩ := hm
      have q1 : (t2 == [61, 61]) = false := by simpa using m1
      have q2 : (t2 == [33, 61]) = false := by simpa using m2
      have q3 : (t2 == [60, 61]) = false := by simpa using m3
      have q4 : (t2 == [62, 61]) = false := by simpa using m4
      have q5 : (t2 == [38, 38]) = false := by simpa using m5
      have q6 : (t2 == [124, 124]) = false := by simpa using m6
      clear m1 m2 m3 m4 m5 m6 hp hsg
      replace Hsg : signS s.data.toList = if singles.contains c then s.data.toList.take 1 else [] := Hsg
      by_cases hsc : singles.contains c = true
      · rw [if_pos hsc] at Hsg
        have Hsc := Lib.hid hsc
        replace Hsg := Lib.hid Hsg
        clear hsc
        go_enter Tryz.func85, Tryz.ntmps85
        go_wp2_with (go_at_call 140; refine (sign_call _ _).mono ?_; rintro e w' ⟨z, rfl, hz1, hz2, rfl⟩; have hz := hz1 Hsc.out; clear hz1 hz2)
        go_ret
        rw [Hsg.out]
        exact ⟨rfl, Below.refl _ _⟩
      · have hsc : singles.contains c = false := by simpa using hsc
        rw [if_neg (by rw [hsc]; simp)] at Hsg
        have Hsc := Lib.hid hsc
        replace Hsg := Lib.hid Hsg
        clear hsc
        go_enter Tryz.func85, Tryz.ntmps85
        go_wp2_with (go_at_call 140; refine (sign_call _ _).mono ?_; rintro e w' ⟨z, rfl, hz1, hz2, rfl⟩; obtain rfl := hz2 Hsc.out; clear hz1 hz2)
        go_ret
        rw [Hsg.out]
        exact ⟨rfl, Below.refl _ _⟩
  · have hp : pairs.contains (s.data.toList.take 2) = false := by
      rw [Bool.eq_false_iff]
      intro h
      rw [List.contains_iff_mem] at h
      have hl : (s.data.toList.take 2).length = 1 := by rw [List.length_take, data_len]; omega
      have : ∀ x ∈ pairs, x.length = 2 := by decide
      have := this _ h
      omega
    have Hsg : signS s.data.toList = if singles.contains c then s.data.toList.take 1 else [] := by rw [hsg.out, if_neg (by rw [hp]; simp)]
    clear hp hsg
    by_cases hsc : singles.contains c = true
    · rw [if_pos hsc] at Hsg
      have Hsc := Lib.hid hsc
      replace Hsg := Lib.hid Hsg
      clear hsc
      go_enter Tryz.func85, Tryz.ntmps85
      go_wp2_with (go_at_call 140; refine (sign_call _ _).mono ?_; rintro e w' ⟨z, rfl, hz1, hz2, rfl⟩; have hz := hz1 Hsc.out; clear hz1 hz2)
      go_ret
      rw [Hsg.out]
      exact ⟨rfl, Below.refl _ _⟩
    · have hsc : singles.contains c = false := by simpa using hsc
      rw [if_neg (by rw [hsc]; simp)] at Hsg
      have Hsc := Lib.hid hsc
      replace Hsg := Lib.hid Hsg
      clear hsc
      go_enter Tryz.func85, Tryz.ntmps85
      go_wp2_with (go_at_call 140; refine (sign_call _ _).mono ?_; rintro e w' ⟨z, rfl, hz1, hz2, rfl⟩; obtain rfl := hz2 Hsc.out; clear hz1 hz2)
      go_ret
      rw [Hsg.out]
      exact ⟨rfl, Below.refl _ _⟩

/-! what the lexer's road reads of package variables -/
def LexW (w : World) : Prop := (∃ m, w.cell? ⟨0, 0, none⟩ = some (.int .i64 m)) ∧ (∃ te pe, w.cell? ⟨3, 0, none⟩ = some (.iface te pe)) ∧ (∃ te pe, w.cell? ⟨4, 0, none⟩ = some (.iface te pe))
theorem LexW.below {w w1 : World} (h : LexW w) (hb : Below w.heap.size w w1) : LexW w1 := by
  obtain ⟨⟨m, h1⟩, ⟨a, b, h2⟩, ⟨c, d, h3⟩⟩ := h
  exact ⟨⟨m, bcell hb h1⟩, ⟨a, b, bcell hb h2⟩, ⟨c, d, bcell hb h3⟩⟩
theorem LexW.alloc {w : World} (h : LexW w) (o : Obj) : LexW (w.alloc o) := h.below ((Below.refl _ _).alloc (Nat.le_refl _) o)
abbrev One (w : World) (A B C D : Value) (w' : World) : Prop :=
  w'.cell? ⟨w.heap.size, 0, none⟩ = some A ∧ w'.cell? ⟨w.heap.size, 1, none⟩ = some B ∧ w'.cell? ⟨w.heap.size, 2, none⟩ = some C ∧ w'.cell? ⟨w.heap.size, 3, none⟩ = some D ∧ (∀ i, w'.frozen? ⟨w.heap.size, i, none⟩ = false) ∧ Below w.heap.size w w'
theorem one_new (w : World) (A B C D : Value) (ty : TypeId) : One w A B C D (w.alloc (.cells #[A, B, C, D] ty)) := by
  have e : ∀ i, (w.alloc (.cells #[A, B, C, D] ty)).cell? ⟨w.heap.size, i, none⟩ = #[A, B, C, D][i]? := fun i => World.cell?_alloc_at _ _ _ _ rfl
  exact ⟨e 0, e 1, e 2, e 3, fun i => World.frozen?_alloc_at _ _ _ _ rfl, (Below.refl _ _).alloc (Nat.le_refl _) _⟩
theorem one_below {w wr w1 : World} {A B C D : Value} (h : One w A B C D wr) (hb : Below wr.heap.size wr w1) : One w A B C D w1 := by
  obtain ⟨a, b, c, d, e, l⟩ := h
  exact ⟨bcell hb a, bcell hb b, bcell hb c, bcell hb d, fun n => (World.frozen?_of_block (a := ⟨w.heap.size, n, none⟩) (hb.block w.heap.size (block_lt_cell a))).trans (e n), bthen l hb⟩

/-! strconv.ParseInt of a word that begins with a digit -/
theorem parseM_ok (l : List UInt8) : ∀ (acc u : Nat), acc ≤ 18446744073709551615 → (Lib.parseUintM 18446744073709551615 acc l = .ok u ↔ l.all digitB = true ∧ l.foldl (fun a c => 10 * a + (c.toNat - 48)) acc ≤ 18446744073709551615 ∧ u = l.foldl (fun a c => 10 * a + (c.toNat - 48)) acc) := by
  induction l with
  | nil =>
    intro acc u ha
    simp only [Lib.parseUintM, List.foldl_nil]
    constructor
    · intro h; injection h with h; exact ⟨rfl, ha, h.symm⟩
    · rintro ⟨-, -, rfl⟩; rfl
  | cons c r ih =>
    intro acc u ha
    have hge := foldl_ge r (10 * acc + (c.toNat - 48))
    have h1 : 1 ≤ 10 ^ r.length := Nat.one_le_pow _ _ (by omega)
    have h2 : (10 * acc + (c.toNat - 48)) * 1 ≤ (10 * acc + (c.toNat - 48)) * 10 ^ r.length := Nat.mul_le_mul_left _ h1
    have hge2 : 10 * acc + (c.toNat - 48) ≤ r.foldl (fun a c => 10 * a + (c.toNat - 48)) (10 * acc + (c.toNat - 48)) := by omega
    clear hge h1 h2
    simp only [Lib.parseUintM, List.foldl_cons, List.all_cons, Bool.and_eq_true]
    by_cases hc : 48 ≤ c.toNat ∧ c.toNat ≤ 57
    · rw [if_pos hc]
      have hd : digitB c = true := by simp [digitB, isDigit]; omega
      by_cases h3 : 1844674407370955162 ≤ acc
      · rw [if_pos h3]
        constructor
        · intro h; cases h
        · rintro ⟨-, h, -⟩; omega
      · rw [if_neg h3]
        by_cases h4 : 18446744073709551615 < acc * 10 + (c.toNat - 48)
        · rw [if_pos h4]
          constructor
          · intro h; cases h
          · rintro ⟨-, h, -⟩; omega
        · rw [if_neg h4, show acc * 10 = 10 * acc by omega, ih _ _ (by omega)]
          constructor
          · rintro ⟨a, b, c⟩; exact ⟨⟨hd, a⟩, b, c⟩
          · rintro ⟨⟨-, a⟩, b, c⟩; exact ⟨a, b, c⟩
    · rw [if_neg hc]
      constructor
      · intro h; cases h
      · rintro ⟨⟨h, -⟩, -, -⟩
        simp [digitB, isDigit] at h
        omega
theorem parse_ok {c : UInt8} {r : List UInt8} (hc : isDigit c.toNat = true) (v : Int) :
    Lib.parseIntB 64 (c :: r) = .ok v ↔ (c :: r).all digitB = true ∧ valS (c :: r) < 9223372036854775808 ∧ v = (valS (c :: r) : Nat) := by
  have hd : 48 ≤ c.toNat ∧ c.toNat ≤ 57 := by simp [isDigit] at hc; omega
  have hv : valS (c :: r) = (c :: r).foldl (fun a c => 10 * a + (c.toNat - 48)) 0 := rfl
  have key := fun u => parseM_ok (c :: r) 0 u (by omega)
  rw [← hv] at key
  have e1 : Lib.parseUintB 64 (c :: r) = Lib.parseUintM 18446744073709551615 0 (c :: r) := by
    rw [Lib.parseUintB, if_neg (by simp)]
  simp only [Lib.parseIntB]
  rw [if_neg (by omega), e1]
  rcases hp : Lib.parseUintM 18446744073709551615 0 (c :: r) with u | _ | _
  ·
    have hk := (key u).1 hp
    simp only []
    by_cases h1 : 2 ^ 63 ≤ u
    · rw [if_pos ⟨by omega, h1⟩]
      constructor
      · intro h; cases h
      · rintro ⟨-, h, -⟩; omega
    · rw [if_neg (fun h => h1 h.2), if_neg (fun h => by omega), if_neg (by omega)]
      constructor
      · intro h; injection h with h; exact ⟨hk.1, by omega, by rw [← h, hk.2.2]⟩
      · rintro ⟨-, -, h⟩; rw [h, hk.2.2]
  ·
    simp only []
    constructor
    · intro h; cases h
    · rintro ⟨h1, h2, -⟩
      have := (key (valS (c :: r))).2 ⟨h1, by omega, rfl⟩
      rw [hp] at this; cases this
  ·
    simp only []
    constructor
    · intro h; cases h
    · rintro ⟨h1, h2, -⟩
      have := (key (valS (c :: r))).2 ⟨h1, by omega, rfl⟩
      rw [hp] at this; cases this
theorem parse_call (t : ByteArray) (c : UInt8) (r : List UInt8) (ht : t.data.toList = c :: r) (hc : isDigit c.toNat = true) (hs : t.size ≤ 1048576) (W : World) (hW : LexW W) :
    Calls Tryz.prog 83 #[.string t, .int .i64 10, .int .i64 64] W fun e w' => ∃ v er, e = .returned (.tuple #[.int .i64 v, er]) ∧ Below W.heap.size W w' ∧
      (((c :: r).all digitB = true ∧ valS (c :: r) < 9223372036854775808) → er = .nilIface ∧ v = (valS (c :: r) : Nat)) ∧ (¬ ((c :: r).all digitB = true ∧ valS (c :: r) < 9223372036854775808) → ∃ te pe, er = .iface te pe) := by
  obtain ⟨_, ⟨a, b, h2⟩, ⟨c', d, h3⟩⟩ := hW
  rcases hp : Lib.parseIntB 64 t.data.toList with v | _ | _
  ·
    refine (Tryz.strconv_ParseInt_10_at64_ok t (by omega) v hp W).mono fun e w' ⟨h1, h4⟩ => ⟨v, .nilIface, h1, ?_, ?_, ?_⟩
    · rcases h4 with rfl | ⟨x, rfl⟩
      · exact Below.refl _ _
      · exact ⟨rfl, rfl, rfl, by rw [Lib.bytesWorld_size]; omega, fun i hi => Lib.bytesWorld_at_old _ _ x i hi⟩
    · intro _
      rw [ht] at hp
      exact ⟨rfl, ((parse_ok hc v).1 hp).2.2⟩
    · intro hn
      rw [ht] at hp
      have := (parse_ok hc v).1 hp
      exact absurd ⟨this.1, this.2.1⟩ hn
  ·
    refine (Tryz.parseInt64_none t (by omega) (fun v => by rw [hp]; simp) (by rw [hp]; simp) _ W h2 (.inr ⟨a, b, rfl⟩)).mono fun e w' ⟨N, h1, _, _, h5⟩ => ⟨_, _, h1, h5, ?_, fun _ => ⟨_, _, rfl⟩⟩
    intro hg
    rw [ht] at hp
    have := (parse_ok hc (valS (c :: r) : Nat)).2 ⟨hg.1, hg.2, rfl⟩
    rw [hp] at this; cases this
  ·
    refine (Tryz.strconv_ParseInt_10_at64_range t (by omega) hp _ W h3 (.inr ⟨c', d, rfl⟩)).mono fun e w' ⟨N, h1, _, _, h5⟩ => ⟨_, _, h1, h5, ?_, fun _ => ⟨_, _, rfl⟩⟩
    intro hg
    rw [ht] at hp
    have := (parse_ok hc (valS (c :: r) : Nat)).2 ⟨hg.1, hg.2, rfl⟩
    rw [hp] at this; cases this
end Go.Proofs.YtlnhhffhmeekoaaGreatDoor
namespace Go.Proofs.YtlnhhffhmeekoaaGreatDoor
open Go.RowKit Go.IntWalk

def tokL (o : Except Nat (Nat × List UInt8 × Nat × Nat)) : Ending := match o with
  | .ok (k, t, n, m) => .returned (.tuple #[tokV k t n 0, .int .i64 ((m : Nat) : Int), .int .i64 0])
  | .error e => .returned (.tuple #[tokV 0 [] 0 0, .int .i64 0, .int .i64 (e : Int)])

set_option maxRecDepth 20000 in
set_option maxHeartbeats 400000 in
theorem lex_token (s : ByteArray) (w : World) (hs : s.size ≤ 1048576) (h0 : 0 < s.size) (hW : LexW w) :
    Calls Tryz.prog 44 #[.string s] w fun e w' => e = tokL (tokS s.data.toList) ∧ Below w.heap.size w w' := by
  have HW := Lib.hid hW
  clear hW
  have hix := sB_lit s 0 0 rfl h0
  have hd := sB_drop s 0 h0
  rw [List.drop_zero] at hd
  have hwl := wordLen_le s.data.toList
  rw [data_len] at hwl
  have hhd : s.data.toList.headD 0 = sB s 0 := by rw [hd]; rfl
  have htl : s.data.toList.tail = s.data.toList.drop 1 := by rw [hd]; rfl
  have hext : s.extract 0 (wordLen s.data.toList) = ⟨(s.data.toList.take (wordLen s.data.toList)).toArray⟩ := by
    have := ext_at s 0 (wordLen s.data.toList) (by omega)
    simpa using this
  have htok : tokS s.data.toList = tokS s.data.toList := rfl
  conv at htok => rhs; unfold tokS
  simp only [hhd] at htok
  have hword := fun W => lex_word s W (by omega)
  rw [hext] at hword
  have hkw := fun W => lex_keyword ⟨(s.data.toList.take (wordLen s.data.toList)).toArray⟩ W
  have hquo := fun W => lex_quoted s W hs h0
  have hsig := fun W => lex_sign s W hs h0
  have htn : (s.data.toList.take (wordLen s.data.toList)).length = wordLen s.data.toList := by rw [List.length_take, data_len]; omega
  have htz : (⟨(s.data.toList.take (wordLen s.data.toList)).toArray⟩ : ByteArray).size = wordLen s.data.toList := by rw [ByteArray.size]; exact htn
  have hfirst : isDigit (sB s 0).toNat = true → ∃ r, s.data.toList.take (wordLen s.data.toList) = sB s 0 :: r := by
    intro h
    have hp := wordLen_pos (l := s.data.toList) (by rw [hd]; simp) (.inr (by rw [hhd]; exact h))
    cases hn : wordLen s.data.toList with
    | zero => omega
    | succ n => rw [hd]; exact ⟨_, rfl⟩
  have hpar := fun r (hr : s.data.toList.take (wordLen s.data.toList) = sB s 0 :: r) hc W hW => parse_call ⟨(s.data.toList.take (wordLen s.data.toList)).toArray⟩ (sB s 0) r hr hc (by rw [htz]; omega) W hW
  have hql : ∀ b r, quoS s.data.toList.tail [] = some (b, r) → r.length < s.size ∧ b.length ≤ 2047 := by
    intro b r h
    have := quoS_len h
    rw [htl, List.length_drop, data_len] at this
    have h3 := this.2.2 (by simp)
    omega
  have hsl := signS_len s.data.toList
  rw [data_len] at hsl htok
  clear hext htl
  generalize sB s 0 = c at *
  have hc : c.toNat < 256 := c.toNat_lt
  generalize wordLen s.data.toList = n at *
  generalize s.data.toList.take n = t at *
  generalize signS s.data.toList = sg at *
  generalize quoS s.data.toList.tail [] = q at *
  generalize tokS s.data.toList = T at *
  clear hd hhd
  by_cases h1 : isLetter c.toNat = true
  · rw [if_pos h1] at htok
    clear hquo hsig hql hsl hpar hfirst
    by_cases h2 : isKeyword t = true
    · rw [if_pos h2, htn] at htok
      subst htok
      simp only [h2] at hkw
      go_enter Tryz.func44, Tryz.ntmps44
      go_wp2_with (first
        | (go_at_call 79; refine (hword _).mono ?_; rintro e w1 ⟨rfl, hb1⟩; obtain ⟨a0, a1, a2, a3, a4, hBw⟩ := one_below (one_new _ _ _ _ _ _) hb1; have HBw := Lib.hid hBw; clear hBw)
        | (go_at_call 80; refine (lex_letter _ _).mono ?_; rintro e w' ⟨rfl, rfl⟩)
        | (go_at_call 82; refine (lex_digit _ _).mono ?_; rintro e w' ⟨rfl, rfl⟩)
        | (go_at_call 81; refine (hkw _).mono ?_; rintro e w' ⟨rfl, rfl⟩))
      refine bodyPost_ret (v := .tuple #[tokV 2 t 0 0, .int .i64 n, .int .i64 0]) (by simp [results, tokV, Tryz.results44, go_sem, World.cell?_setCell_far, a0, a1, a2, a3]) rfl ⟨?_, ?_⟩
      · simp [tokL]
      · refine ((((HBw.out.setCell ?_ _).setCell ?_ _).setCell ?_ _).setCell ?_ _) <;> simp
    have h2' : isKeyword t = false := by simpa using h2
    simp only [h2'] at hkw
    rw [if_neg h2] at htok
    by_cases h3 : 20 < n
    · rw [if_pos (by omega)] at htok
      subst htok
      go_enter Tryz.func44, Tryz.ntmps44
      go_wp2_with (first
        | (go_at_call 79; refine (hword _).mono ?_; rintro e w1 ⟨rfl, hb1⟩; obtain ⟨a0, a1, a2, a3, a4, hBw⟩ := one_below (one_new _ _ _ _ _ _) hb1; have HBw := Lib.hid hBw; clear hBw)
        | (go_at_call 80; refine (lex_letter _ _).mono ?_; rintro e w' ⟨rfl, rfl⟩)
        | (go_at_call 82; refine (lex_digit _ _).mono ?_; rintro e w' ⟨rfl, rfl⟩)
        | (go_at_call 81; refine (hkw _).mono ?_; rintro e w' ⟨rfl, rfl⟩))
      refine bodyPost_ret (v := .tuple #[tokV 0 [] 0 0, .int .i64 0, .int .i64 164]) (by simp [results, tokV, Tryz.results44, go_sem, World.cell?_setCell_far, a0, a1, a2, a3]) rfl ⟨?_, ?_⟩
      · simp [tokL]
      · refine ((((HBw.out.setCell ?_ _).setCell ?_ _).setCell ?_ _).setCell ?_ _) <;> simp
    · rw [if_neg (by omega), htn] at htok
      subst htok
      go_enter Tryz.func44, Tryz.ntmps44
      go_wp2_with (first
        | (go_at_call 79; refine (hword _).mono ?_; rintro e w1 ⟨rfl, hb1⟩; obtain ⟨a0, a1, a2, a3, a4, hBw⟩ := one_below (one_new _ _ _ _ _ _) hb1; have HBw := Lib.hid hBw; clear hBw)
        | (go_at_call 80; refine (lex_letter _ _).mono ?_; rintro e w' ⟨rfl, rfl⟩)
        | (go_at_call 82; refine (lex_digit _ _).mono ?_; rintro e w' ⟨rfl, rfl⟩)
        | (go_at_call 81; refine (hkw _).mono ?_; rintro e w' ⟨rfl, rfl⟩))
      refine bodyPost_ret (v := .tuple #[tokV 1 t 0 0, .int .i64 n, .int .i64 0]) (by simp [results, tokV, Tryz.results44, go_sem, World.cell?_setCell_far, a0, a1, a2, a3]) rfl ⟨?_, ?_⟩
      · simp [tokL]
      · refine ((((HBw.out.setCell ?_ _).setCell ?_ _).setCell ?_ _).setCell ?_ _) <;> simp
  have h1' : isLetter c.toNat = false := by simpa using h1
  rw [if_neg h1] at htok
  clear hkw
  by_cases h2 : isDigit c.toNat = true
  · rw [if_pos h2] at htok
    clear hquo hsig hql hsl
    obtain ⟨r, hr⟩ := hfirst h2
    have hpar' := hpar r hr h2
    clear hpar hfirst
    have hnum : Hid (numS t = if (c :: r).all digitB = true ∧ ((c :: r).length ≤ 1 ∨ (c :: r).headD 0 ≠ 48) ∧ valS (c :: r) < 9223372036854775808 then some (valS (c :: r)) else none) := by
      show _ = _
      rw [hr]; rfl
    by_cases hg : (c :: r).all digitB = true ∧ valS (c :: r) < 9223372036854775808
    · by_cases hz : c.toNat = 48 ∧ r ≠ []
      · have hnn : numS t = none := by
          rw [hr]; exact numS_zero hz.1 hz.2
        rw [hnn] at htok
        simp only [] at htok
        subst htok
        have Hg := Lib.hid hg
        have hz1 := hz.1
        have hz2 : t ≠ [48] := by
          rw [hr]
          intro e
          injection e with _ e
          exact hz.2 e
        have hz3 : (t == [48]) = false := by simpa using hz2
        have hz4 : ((c.toNat : Int) == 48) = true := by simp [hz1]
        clear hz hz2 hg hnum hr hnn hz1
        generalize valS (c :: r) = u at *
        go_enter Tryz.func44, Tryz.ntmps44
        go_wp2_with (first
          | (go_at_call 79; refine (hword _).mono ?_; rintro e w1 ⟨rfl, hb1⟩; obtain ⟨a0, a1, a2, a3, a4, hBw⟩ := one_below (one_new _ _ _ _ _ _) hb1; have HBw := Lib.hid hBw; clear hBw)
          | (go_at_call 80; refine (lex_letter _ _).mono ?_; rintro e w' ⟨rfl, rfl⟩)
          | (go_at_call 82; refine (lex_digit _ _).mono ?_; rintro e w' ⟨rfl, rfl⟩)
          | (go_at_call 83; refine (hpar' _ ((HW.out.alloc _).below hb1)).mono ?_; rintro e w2 ⟨v, er, rfl, hb2, hok, hbad⟩; obtain ⟨a0, a1, a2, a3, a4, hBw⟩ := one_below ⟨a0, a1, a2, a3, a4, HBw.out⟩ hb2; have HBw := Lib.hid hBw; clear hBw; obtain ⟨rfl, rfl⟩ := hok Hg.out; clear hok hbad))
        refine bodyPost_ret (v := .tuple #[tokV 0 [] 0 0, .int .i64 0, .int .i64 162]) (by simp [results, tokV, Tryz.results44, go_sem, World.cell?_setCell_far, a0, a1, a2, a3]) rfl ⟨?_, ?_⟩
        · simp [tokL]
        · refine ((((HBw.out.setCell ?_ _).setCell ?_ _).setCell ?_ _).setCell ?_ _) <;> simp
      · have hnn : numS t = some (valS (c :: r)) := by
          rw [hnum.out, if_pos]
          refine ⟨hg.1, ?_, hg.2⟩
          cases r with
          | nil => left; simp
          | cons a r =>
            right
            intro e
            apply hz
            refine ⟨?_, by simp⟩
            simp only [List.headD_cons] at e
            rw [e]; rfl
        rw [hnn, htn] at htok
        simp only [] at htok
        subst htok
        have Hg := Lib.hid hg
        by_cases hz1 : c.toNat = 48
        · have hrn : r = [] := by
            by_cases h : r = []
            · exact h
            · exact absurd ⟨hz1, h⟩ hz
          have hz3 : (t == [48]) = true := by rw [hr, hrn, show c = 48 from UInt8.toNat_inj.1 hz1]; rfl
          have hz4 : ((c.toNat : Int) == 48) = true := by simp [hz1]
          clear hz hg hnum hr hnn hz1 hrn
          generalize valS (c :: r) = u at *
          go_enter Tryz.func44, Tryz.ntmps44
          go_wp2_with (first
            | (go_at_call 79; refine (hword _).mono ?_; rintro e w1 ⟨rfl, hb1⟩; obtain ⟨a0, a1, a2, a3, a4, hBw⟩ := one_below (one_new _ _ _ _ _ _) hb1; have HBw := Lib.hid hBw; clear hBw)
            | (go_at_call 80; refine (lex_letter _ _).mono ?_; rintro e w' ⟨rfl, rfl⟩)
            | (go_at_call 82; refine (lex_digit _ _).mono ?_; rintro e w' ⟨rfl, rfl⟩)
            | (go_at_call 83; refine (hpar' _ ((HW.out.alloc _).below hb1)).mono ?_; rintro e w2 ⟨v, er, rfl, hb2, hok, hbad⟩; obtain ⟨a0, a1, a2, a3, a4, hBw⟩ := one_below ⟨a0, a1, a2, a3, a4, HBw.out⟩ hb2; have HBw := Lib.hid hBw; clear hBw; obtain ⟨rfl, rfl⟩ := hok Hg.out; clear hok hbad))
          refine bodyPost_ret (v := .tuple #[tokV 3 [] u 0, .int .i64 n, .int .i64 0]) (by simp [results, tokV, Tryz.results44, go_sem, World.cell?_setCell_far, a0, a1, a2, a3]) rfl ⟨?_, ?_⟩
          · simp [tokL]
          · refine ((((HBw.out.setCell ?_ _).setCell ?_ _).setCell ?_ _).setCell ?_ _) <;> simp
        · have hz4 : ((c.toNat : Int) == 48) = false := by simp; omega
          clear hz hg hnum hr hnn hz1
          generalize valS (c :: r) = u at *
          go_enter Tryz.func44, Tryz.ntmps44
          go_wp2_with (first
            | (go_at_call 79; refine (hword _).mono ?_; rintro e w1 ⟨rfl, hb1⟩; obtain ⟨a0, a1, a2, a3, a4, hBw⟩ := one_below (one_new _ _ _ _ _ _) hb1; have HBw := Lib.hid hBw; clear hBw)
            | (go_at_call 80; refine (lex_letter _ _).mono ?_; rintro e w' ⟨rfl, rfl⟩)
            | (go_at_call 82; refine (lex_digit _ _).mono ?_; rintro e w' ⟨rfl, rfl⟩)
            | (go_at_call 83; refine (hpar' _ ((HW.out.alloc _).below hb1)).mono ?_; rintro e w2 ⟨v, er, rfl, hb2, hok, hbad⟩; obtain ⟨a0, a1, a2, a3, a4, hBw⟩ := one_below ⟨a0, a1, a2, a3, a4, HBw.out⟩ hb2; have HBw := Lib.hid hBw; clear hBw; obtain ⟨rfl, rfl⟩ := hok Hg.out; clear hok hbad))
          refine bodyPost_ret (v := .tuple #[tokV 3 [] u 0, .int .i64 n, .int .i64 0]) (by simp [results, tokV, Tryz.results44, go_sem, World.cell?_setCell_far, a0, a1, a2, a3]) rfl ⟨?_, ?_⟩
          · simp [tokL]
          · refine ((((HBw.out.setCell ?_ _).setCell ?_ _).setCell ?_ _).setCell ?_ _) <;> simp
    · have hnn : numS t = none := by
        rw [hnum.out, if_neg (fun h => hg ⟨h.1, h.2.2⟩)]
      rw [hnn] at htok
      simp only [] at htok
      subst htok
      have Hg := Lib.hid hg
      clear hg hnum hr hnn
      generalize valS (c :: r) = u at *
      go_enter Tryz.func44, Tryz.ntmps44
      go_wp2_with (first
        | (go_at_call 79; refine (hword _).mono ?_; rintro e w1 ⟨rfl, hb1⟩; obtain ⟨a0, a1, a2, a3, a4, hBw⟩ := one_below (one_new _ _ _ _ _ _) hb1; have HBw := Lib.hid hBw; clear hBw)
        | (go_at_call 80; refine (lex_letter _ _).mono ?_; rintro e w' ⟨rfl, rfl⟩)
        | (go_at_call 82; refine (lex_digit _ _).mono ?_; rintro e w' ⟨rfl, rfl⟩)
        | (go_at_call 83; refine (hpar' _ ((HW.out.alloc _).below hb1)).mono ?_; rintro e w2 ⟨v, er, rfl, hb2, hok, hbad⟩; obtain ⟨a0, a1, a2, a3, a4, hBw⟩ := one_below ⟨a0, a1, a2, a3, a4, HBw.out⟩ hb2; have HBw := Lib.hid hBw; clear hBw; obtain ⟨te, pe, rfl⟩ := hbad Hg.out; clear hok hbad))
      refine bodyPost_ret (v := .tuple #[tokV 0 [] 0 0, .int .i64 0, .int .i64 162]) (by simp [results, tokV, Tryz.results44, go_sem, World.cell?_setCell_far, a0, a1, a2, a3]) rfl ⟨?_, ?_⟩
      · simp [tokL]
      · refine ((((HBw.out.setCell ?_ _).setCell ?_ _).setCell ?_ _).setCell ?_ _) <;> simp
  have h2' : isDigit c.toNat = false := by simpa using h2
  rw [if_neg h2] at htok
  clear hpar hfirst
  by_cases h3 : c.toNat = 34
  · rw [if_pos h3] at htok
    have q34 : ((c.toNat : Int) == 34) = true := by simp [h3]
    rcases hq : q with _ | ⟨b, r⟩
    · rw [hq] at htok hquo
      simp only [] at htok
      subst htok
      replace hquo : ∀ W : World, Calls Tryz.prog 84 #[.string s] W fun e w' => e = .returned (.tuple #[.string ⟨#[]⟩, .int .i64 0]) ∧ Below W.heap.size W w' := hquo
      go_enter Tryz.func44, Tryz.ntmps44
      go_wp2_with (first
        | (go_at_call 79; refine (hword _).mono ?_; rintro e w1 ⟨rfl, hb1⟩; obtain ⟨a0, a1, a2, a3, a4, hBw⟩ := one_below (one_new _ _ _ _ _ _) hb1; have HBw := Lib.hid hBw; clear hBw)
        | (go_at_call 80; refine (lex_letter _ _).mono ?_; rintro e w' ⟨rfl, rfl⟩)
        | (go_at_call 82; refine (lex_digit _ _).mono ?_; rintro e w' ⟨rfl, rfl⟩)
        | (go_at_call 84; refine (hquo _).mono ?_; rintro e w2 ⟨rfl, hb2⟩; obtain ⟨a0, a1, a2, a3, a4, hBw⟩ := one_below ⟨a0, a1, a2, a3, a4, HBw.out⟩ hb2; have HBw := Lib.hid hBw; clear hBw))
      refine bodyPost_ret (v := .tuple #[tokV 0 [] 0 0, .int .i64 0, .int .i64 163]) (by simp [results, tokV, Tryz.results44, go_sem, World.cell?_setCell_far, a0, a1, a2, a3]) rfl ⟨?_, ?_⟩
      · simp [tokL]
      · refine ((((HBw.out.setCell ?_ _).setCell ?_ _).setCell ?_ _).setCell ?_ _) <;> simp
    · have hq2 := hql b r hq
      rw [hq] at htok hquo
      simp only [] at htok
      subst htok
      replace hquo : ∀ W : World, Calls Tryz.prog 84 #[.string s] W fun e w' => e = .returned (.tuple #[.string ⟨b.toArray⟩, .int .i64 ((s.size - r.length : Nat) : Int)]) ∧ Below W.heap.size W w' := hquo
      have hm0 : 0 < s.size - r.length := by omega
      generalize s.size - r.length = m at *
      have hmz : ((m : Int) == 0) = false := by simp; omega
      go_enter Tryz.func44, Tryz.ntmps44
      go_wp2_with (first
        | (go_at_call 79; refine (hword _).mono ?_; rintro e w1 ⟨rfl, hb1⟩; obtain ⟨a0, a1, a2, a3, a4, hBw⟩ := one_below (one_new _ _ _ _ _ _) hb1; have HBw := Lib.hid hBw; clear hBw)
        | (go_at_call 80; refine (lex_letter _ _).mono ?_; rintro e w' ⟨rfl, rfl⟩)
        | (go_at_call 82; refine (lex_digit _ _).mono ?_; rintro e w' ⟨rfl, rfl⟩)
        | (go_at_call 84; refine (hquo _).mono ?_; rintro e w2 ⟨rfl, hb2⟩; obtain ⟨a0, a1, a2, a3, a4, hBw⟩ := one_below ⟨a0, a1, a2, a3, a4, HBw.out⟩ hb2; have HBw := Lib.hid hBw; clear hBw))
      refine bodyPost_ret (v := .tuple #[tokV 4 b 0 0, .int .i64 m, .int .i64 0]) (by simp [results, tokV, Tryz.results44, go_sem, World.cell?_setCell_far, a0, a1, a2, a3]) rfl ⟨?_, ?_⟩
      · simp [tokL]
      · refine ((((HBw.out.setCell ?_ _).setCell ?_ _).setCell ?_ _).setCell ?_ _) <;> simp
  have q34 : ((c.toNat : Int) == 34) = false := by simp; omega
  rw [if_neg h3] at htok
  clear hquo hql
  by_cases h4 : sg = []
  · rw [if_pos h4] at htok
    subst htok
    rw [h4] at hsig
    go_enter Tryz.func44, Tryz.ntmps44
    go_wp2_with (first
      | (go_at_call 79; refine (hword _).mono ?_; rintro e w1 ⟨rfl, hb1⟩; obtain ⟨a0, a1, a2, a3, a4, hBw⟩ := one_below (one_new _ _ _ _ _ _) hb1; have HBw := Lib.hid hBw; clear hBw)
      | (go_at_call 80; refine (lex_letter _ _).mono ?_; rintro e w' ⟨rfl, rfl⟩)
      | (go_at_call 82; refine (lex_digit _ _).mono ?_; rintro e w' ⟨rfl, rfl⟩)
      | (go_at_call 85; refine (hsig _).mono ?_; rintro e w2 ⟨rfl, hb2⟩; obtain ⟨a0, a1, a2, a3, a4, hBw⟩ := one_below ⟨a0, a1, a2, a3, a4, HBw.out⟩ hb2; have HBw := Lib.hid hBw; clear hBw))
    refine bodyPost_ret (v := .tuple #[tokV 0 [] 0 0, .int .i64 0, .int .i64 161]) (by simp [results, tokV, Tryz.results44, go_sem, World.cell?_setCell_far, a0, a1, a2, a3]) rfl ⟨?_, ?_⟩
    · simp [tokL]
    · refine ((((HBw.out.setCell ?_ _).setCell ?_ _).setCell ?_ _).setCell ?_ _) <;> simp
  · rw [if_neg h4] at htok
    subst htok
    have hsz2 : (⟨sg.toArray⟩ : ByteArray).size = sg.length := by simp [ByteArray.size]
    have hem : sg.isEmpty = false := by simpa using h4
    have hsl2 := hsl h4
    go_enter Tryz.func44, Tryz.ntmps44
    go_wp2_with (first
      | (go_at_call 79; refine (hword _).mono ?_; rintro e w1 ⟨rfl, hb1⟩; obtain ⟨a0, a1, a2, a3, a4, hBw⟩ := one_below (one_new _ _ _ _ _ _) hb1; have HBw := Lib.hid hBw; clear hBw)
      | (go_at_call 80; refine (lex_letter _ _).mono ?_; rintro e w' ⟨rfl, rfl⟩)
      | (go_at_call 82; refine (lex_digit _ _).mono ?_; rintro e w' ⟨rfl, rfl⟩)
      | (go_at_call 85; refine (hsig _).mono ?_; rintro e w2 ⟨rfl, hb2⟩; obtain ⟨a0, a1, a2, a3, a4, hBw⟩ := one_below ⟨a0, a1, a2, a3, a4, HBw.out⟩ hb2; have HBw := Lib.hid hBw; clear hBw))
    refine bodyPost_ret (v := .tuple #[tokV 5 sg 0 0, .int .i64 sg.length, .int .i64 0]) (by simp [results, tokV, Tryz.results44, go_sem, World.cell?_setCell_far, a0, a1, a2, a3]) rfl ⟨?_, ?_⟩
    · simp [tokL]
    · refine ((((HBw.out.setCell ?_ _).setCell ?_ _).setCell ?_ _).setCell ?_ _) <;> simp
end Go.Proofs.YtlnhhffhmeekoaaGreatDoor
namespace Go.Proofs.YtlnhhffhmeekoaaGreatDoor
open Go.RowKit Go.IntWalk

theorem cut_line (R : List UInt8) : (Lib.cut R [10]).1 = R.takeWhile (fun c => c != 10) := by
  have key : ∀ R : List UInt8, (if 0 ≤ Lib.indexByte R 10 then R.take (Lib.indexByte R 10).toNat else R) = R.takeWhile (fun c => c != 10) := by
    intro R
    induction R with
    | nil => rfl
    | cons b l ih =>
      have hg := Lib.indexByte_ge l 10
      unfold Lib.indexByte
      by_cases hb : b = 10
      · subst hb; simp
      · have hb' : (b == 10) = false := by simpa using hb
        rw [hb']
        simp only [Bool.false_eq_true, if_false]
        have e : List.takeWhile (fun c : UInt8 => c != 10) (b :: l) = b :: List.takeWhile (fun c => c != 10) l := by simp [List.takeWhile_cons, hb]
        rw [e, ← ih]
        by_cases h1 : Lib.indexByte l 10 = -1
        · rw [h1]; simp
        · have e2 : (if (Lib.indexByte l 10 == -1) = true then (-1 : Int) else Lib.indexByte l 10 + 1) = Lib.indexByte l 10 + 1 := if_neg (by simpa using h1)
          rw [e2, if_pos (show 0 ≤ Lib.indexByte l 10 + 1 by omega), if_pos (show 0 ≤ Lib.indexByte l 10 by omega)]
          have : (Lib.indexByte l 10 + 1).toNat = (Lib.indexByte l 10).toNat + 1 := by omega
          rw [this, List.take_succ_cons]
  rw [← key, Lib.cut, Lib.index_one]
  split <;> rfl
theorem skip_line (R : List UInt8) : skip true R = skip false (R.drop (R.takeWhile (fun c => c != 10)).length) := by
  induction R with
  | nil => rfl
  | cons b l ih =>
    by_cases hb : b = 10
    · subst hb
      rw [skip_nl]
      simp
    · have hn : ¬ b.toNat = 10 := fun h => hb (UInt8.toNat_inj.1 h)
      rw [skip, if_neg hn, ih]
      simp [hb]
theorem skip_trim (l : List UInt8) : skip false l = skip false (Lib.trimLeftS l [32, 9, 10, 13]) := by
  induction l with
  | nil => rfl
  | cons c r ih =>
    have key : ∀ n : Fin 256, ([32, 9, 10, 13] : List UInt8).contains (UInt8.ofNat n.val) = isBlank (UInt8.ofNat n.val) := by decide +kernel
    have hk := key ⟨c.toNat, c.toNat_lt⟩
    simp only [UInt8.ofNat_toNat] at hk
    by_cases hb : isBlank c = true
    · rw [hb] at hk
      rw [skip, if_pos hb, ih]
      simp only [Lib.trimLeftS, List.dropWhile_cons, hk, if_true]
    · have hb' : isBlank c = false := by simpa using hb
      rw [hb'] at hk
      simp only [Lib.trimLeftS, List.dropWhile_cons, hk, if_false, Bool.false_eq_true]
theorem trim_head (l : List UInt8) (c : UInt8) (r : List UInt8) (h : Lib.trimLeftS l [32, 9, 10, 13] = c :: r) : isBlank c = false := by
  have key : ∀ n : Fin 256, ([32, 9, 10, 13] : List UInt8).contains (UInt8.ofNat n.val) = isBlank (UInt8.ofNat n.val) := by decide +kernel
  have hk := key ⟨c.toNat, c.toNat_lt⟩
  simp only [UInt8.ofNat_toNat] at hk
  rw [← hk]
  induction l with
  | nil => simp [Lib.trimLeftS] at h
  | cons a l ih =>
    simp only [Lib.trimLeftS, List.dropWhile_cons] at h
    split at h
    · exact ih h
    · injection h with h1 h2
      rw [← h1]
      rename_i hh
      simpa using hh
theorem trim_drop (l : List UInt8) : Lib.trimLeftS l [32, 9, 10, 13] = l.drop (l.length - (Lib.trimLeftS l [32, 9, 10, 13]).length) ∧ (Lib.trimLeftS l [32, 9, 10, 13]).length ≤ l.length := by
  have h : (Lib.trimLeftS l [32, 9, 10, 13]) <:+ l := List.dropWhile_suffix _
  refine ⟨?_, h.length_le⟩
  exact List.suffix_iff_eq_drop.1 h
theorem allFrom_same {a b : List UInt8} {p q : Nat} {acc : List Tok} (h : skip false a = skip false b) (hpq : p + a.length = q + b.length) : allFrom a p acc = allFrom b q acc := by
  have h1 := skip_len false a
  have h2 := skip_len false b
  rw [allFrom_skip a, allFrom_skip b, h]
  congr 1
  rw [h] at h1
  omega

/-- a slice of tokens that can be read: its block is one of 'ok' -/
def RdT (ok : Nat → Prop) (w : World) (v : Value) (l : List Tok) : Prop :=
  (l = [] ∧ v = .slice none 0 0) ∨ ∃ g cap cur, v = .slice (some ⟨g, 0, none⟩) l.length cap ∧ ok g ∧ w.heap[g]? = some (.cells cur 41 (0, 0)) ∧ l.length ≤ cap ∧ cap * 4 ≤ cur.size ∧ cap ≤ maxLen ∧ cur.toList.take (l.length * 4) = tvals l
theorem OwnT.rd {ok : Nat → Prop} {w : World} {v : Value} {l : List Tok} (h : OwnT ok w v l) : RdT ok w v l := by
  rcases h.row.2 with ⟨rfl, hn⟩ | ⟨g, cap, cur, rfl, _, hh, hl, hm, hc, ht⟩
  · exact .inl ⟨List.eq_nil_of_length_eq_zero hn, rfl⟩
  · exact .inr ⟨g, cap, cur, rfl, h.blk g rfl, hh, hl, by omega, hm, ht⟩
theorem RdT.clip {ok : Nat → Prop} {w : World} {g n cap : Nat} {l : List Tok} (h : RdT ok w (.slice (some ⟨g, 0, none⟩) n cap) l) : n = l.length ∧ RdT ok w (.slice (some ⟨g, 0, none⟩) n n) l := by
  rcases h with ⟨_, h⟩ | ⟨g', cap', cur, hv, ho, hb, hl, hs, hm, ht⟩
  · cases h
  · injection hv with h1 h2 h3
    injection h1 with h1
    injection h1 with h1
    subst h1 h2 h3
    exact ⟨rfl, .inr ⟨_, _, cur, rfl, ho, hb, Nat.le_refl _, by omega, by omega, ht⟩⟩
def AllPostL (w : World) (r : Except (Nat × Nat) (List Tok)) (e : Ending) (w' : World) : Prop := Below w.heap.size w w' ∧ match r with
  | .error (p, n) => e = .returned (.tuple #[.slice none 0 0, .int .i64 (p : Int), .int .i64 (n : Int)])
  | .ok toks => ∃ g n, e = .returned (.tuple #[.slice (some ⟨g, 0, none⟩) n n, .int .i64 0, .int .i64 0]) ∧ RdT (behind w) w' (.slice (some ⟨g, 0, none⟩) n n) toks
theorem allRun_ok {f : Nat} : ∀ {l : List UInt8} {p : Nat} {acc toks : List Tok}, allRun f l p acc = .ok toks → toks ≠ [] := by
  induction f with
  | zero => intro l p acc toks h; simp [allRun] at h
  | succ f ih =>
    intro l p acc toks h
    simp only [allRun] at h
    split at h
    · injection h with h; rw [← h]; simp
    · split at h
      · cases h
      · exact ih h

theorem clip_call (g n cap : Nat) (h : n ≤ cap) (hc : cap ≤ maxLen) (W : World) :
    Calls Tryz.prog 45 #[.slice (some ⟨g, 0, none⟩) n cap] W fun e w' => e = .returned (.slice (some ⟨g, 0, none⟩) n n) ∧ W = w' := by
  unfold maxLen at hc
  go_enter Tryz.func45, Tryz.ntmps45
  go_wp2
  go_ret
  exact ⟨rfl, rfl⟩
theorem OwnT.form {ok : Nat → Prop} {w : World} {v : Value} {l : List Tok} (h : OwnT ok w v l) (hn : l ≠ []) : ∃ g n cap, v = .slice (some ⟨g, 0, none⟩) n cap ∧ n ≤ cap ∧ cap ≤ maxLen := by
  rcases h.row.2 with ⟨rfl, h0⟩ | ⟨g, cap, cur, rfl, _, hh, hl, hm, hc, ht⟩
  · exact absurd (List.eq_nil_of_length_eq_zero h0) hn
  · exact ⟨g, _, cap, rfl, hl, hm⟩
theorem cut_call (R : List UInt8) (hR : R.length ≤ 1048576) (W : World) (hW : LexW W) :
    Calls Tryz.prog 43 #[.string ⟨R.toArray⟩, .string ⟨#[10]⟩] W fun e w' => ∃ b c, e = .returned (.tuple #[.string ⟨(R.takeWhile (fun c => c != 10)).toArray⟩, b, c]) ∧ Below W.heap.size W w' := by
  obtain ⟨⟨m, hm⟩, _⟩ := hW
  refine (Tryz.strings_Cut ⟨R.toArray⟩ ⟨#[10]⟩ m W (by rw [show (⟨R.toArray⟩ : ByteArray).size = R.length from by simp [ByteArray.size]]; omega) hm).mono fun e w' ⟨h1, n, h2⟩ => ?_
  refine ⟨.string ⟨(Lib.cut R [10]).2.1.toArray⟩, .bool (Lib.cut R [10]).2.2, ?_, ?_⟩
  · rw [← cut_line]; exact h1
  · rw [h2]; exact ⟨rfl, rfl, rfl, Nat.le_refl _, fun _ _ => rfl⟩
theorem hp_call (R : List UInt8) (W : World) :
    Calls Tryz.prog 42 #[.string ⟨R.toArray⟩, .string ⟨#[47, 47]⟩] W fun e w' => e = .returned (.bool (Lib.hasPrefix R [47, 47])) ∧ W = w' :=
  (Tryz.strings_HasPrefix ⟨R.toArray⟩ ⟨#[47, 47]⟩ W).mono fun e w' h => ⟨h.1, h.2.symm⟩
theorem note_skip {R : List UInt8} (h : Lib.hasPrefix R [47, 47] = true) : skip false R = skip false (R.drop (R.takeWhile (fun c => c != 10)).length) ∧ 0 < (R.takeWhile (fun c => c != 10)).length := by
  match R, h with
  | c :: d :: r, h =>
    simp [Lib.hasPrefix, List.isPrefixOf] at h
    obtain ⟨h1, h2⟩ := h
    obtain rfl : c = 47 := h1.symm
    obtain rfl : d = 47 := h2.symm
    refine ⟨?_, by simp⟩
    rw [← skip_line]
    rfl
  | [c], h => simp [Lib.hasPrefix, List.isPrefixOf] at h
  | [], h => simp [Lib.hasPrefix, List.isPrefixOf] at h
theorem head_skip {c : UInt8} {r : List UInt8} (hb : isBlank c = false) (h : Lib.hasPrefix (c :: r) [47, 47] = false) : skip false (c :: r) = c :: r := by
  rw [skip, if_neg (by rw [hb]; simp), if_neg]
  rintro ⟨h1, h2⟩
  have : c = 47 := UInt8.toNat_inj.1 h1
  subst this
  cases r with
  | nil => simp at h2
  | cons d r =>
    simp at h2
    subst h2
    simp [Lib.hasPrefix, List.isPrefixOf] at h
theorem below_drewN (w : World) (n : Nat) : Below w.heap.size w (w.drewN n) := ⟨rfl, rfl, rfl, Nat.le_refl _, fun _ _ => rfl⟩
theorem ba_size (R : List UInt8) : (⟨R.toArray⟩ : ByteArray).size = R.length := by simp [ByteArray.size]

set_option maxRecDepth 20000 in
set_option maxHeartbeats 400000 in
theorem lex_All (s : ByteArray) (w : World) (hsz : s.size ≤ 9223372036854775807) (hW : LexW w) :
    Calls Tryz.prog 19 #[.string s] w fun e w' => AllPostL w (allS s.data.toList) e w' := by
  by_cases h0 : 8192 < s.size
  · have H : Hid (allS s.data.toList = .error (0, 160)) := by
      show _ = _
      rw [allS, if_pos (by rw [data_len]; exact h0)]
    go_enter Tryz.func19, Tryz.ntmps19
    go_wp2
    go_step3
    go_wp2
    try rw [Exit.noGoto_ret]
    go_ret3
    rw [H.out]
    exact ⟨Below.refl _ _, rfl⟩
  have hs : s.size ≤ 1048576 := by omega
  have Hall : Hid (allS s.data.toList = allFrom s.data.toList 0 []) := by
    show _ = _
    rw [allS, if_neg (by rw [data_len]; exact h0)]
  have HW := Lib.hid hW
  clear hW
  go_enter Tryz.func19, Tryz.ntmps19
  go_wp2
  go_step3
  go_wp2
  go_step3
  go_wp2
  go_loopw [5, 6] (fun v5 v6 wr => ∃ (k : Nat) (acc : List Tok), k ≤ s.size ∧ v6 = .int .i64 k ∧ acc.length ≤ k ∧ OwnT (behind w) wr v5 acc ∧ Fr (behind w) w wr ∧ allS s.data.toList = allFrom (s.data.toList.drop k) k acc) (fun _ i _ => s.size - (intOf i).toNat)
  case atStart => exact ⟨0, [], by omega, rfl, by simp, OwnR.nil _ _ _ _, Fr.refl _ _, by rw [Hall.out]; rfl⟩
  case round =>
    obtain ⟨k, acc, hk, rfl, hacc, hO, hF, hall⟩ := hrel
    have HO := Lib.hid hO
    have HF := Lib.hid hF
    have HA := Lib.hid hall
    have HWr : Hid (LexW wr) := HW.out.below (hF.to_below fun j hj => by simp [behind]; omega)
    clear hO hF hall
    have htr : ∀ W : World, Calls Tryz.prog 41 #[.string (s.extract k s.size), .string ⟨#[32, 9, 10, 13]⟩] W fun e w' => e = .returned (.string ⟨(Lib.trimLeftS (s.data.toList.drop k) [32, 9, 10, 13]).toArray⟩) ∧ Below W.heap.size W w' := by
      intro W
      have h := Tryz.strings_TrimLeft (s.extract k s.size) ⟨#[32, 9, 10, 13]⟩ W (by decide) (by
        intro j b h
        have hm := List.mem_of_getElem? h
        have key : ∀ x ∈ ([32, 9, 10, 13] : List UInt8), x.toNat < 128 := by decide
        exact key b hm)
      rw [ext_drop] at h
      exact h
    have htd := trim_drop (s.data.toList.drop k)
    have hsk := skip_trim (s.data.toList.drop k)
    have hth := trim_head (s.data.toList.drop k)
    rw [List.length_drop, data_len, List.drop_drop] at htd
    generalize Lib.trimLeftS (s.data.toList.drop k) [32, 9, 10, 13] = R at *
    have hRz := ba_size R
    have hwr : IntKind.i64.wrap ((s.size : Int) - (R.length : Int)) = (s.size : Int) - (R.length : Int) := i64_in _ (by omega)
    by_cases hR : R = []
    · subst hR
      have Hres := Lib.hid (allFrom_end (s.data.toList.drop k) k acc hsk)
      clear hsk hth htd
      go_wp2_with (first
        | (go_at_call 41; refine (htr _).mono ?_; rintro e w1 ⟨rfl, hb1⟩)
        | (at_builtin; refine wpT_append _ ⟨0, [], 0, s.size⟩ (.tmp 61) (.tmp 65) rfl rfl _ rfl 1 rfl rfl (OwnR.below HO.out hb1) (HF.out.below hb1) (by omega) (fun j h => Nat.le_trans (HF.out.below hb1).size h) ?_; intro v1 w2 hO1 hF1; obtain ⟨g, n, cap, rfl, hcap, hmx⟩ := OwnT.form hO1 (by simp); have HO1 := Lib.hid hO1; clear HO HF hO1)
        | (go_at_call 45; refine (clip_call _ _ _ hcap hmx _).mono ?_; rintro e w3 ⟨rfl, rfl⟩))
      try rw [Exit.noGoto_ret]
      go_ret3
      rw [HA.out, Hres.out, List.length_drop, data_len, show k + (s.size - k) = s.size by omega]
      exact ⟨hF1.to_below fun j hj => by simp [behind]; omega, g, n, rfl, (RdT.clip (OwnT.rd HO1.out)).2⟩
    have hRp : 0 < R.length := List.length_pos_iff.2 hR
    have hk1 : k + (s.size - k - R.length) = s.size - R.length := by omega
    have hem : R.isEmpty = false := by simpa using hR
    by_cases hpre : Lib.hasPrefix R [47, 47] = true
    · have hns := note_skip hpre
      have hL : (R.takeWhile (fun c => c != 10)).length ≤ R.length := (List.takeWhile_sublist _).length_le
      have hcut := cut_call R (by omega)
      generalize R.takeWhile (fun c => c != 10) = L at *
      have hLz := ba_size L
      have hd2 := congrArg (List.drop L.length) htd.1
      rw [hk1, List.drop_drop] at hd2
      have Hres := Lib.hid (allFrom_same (a := s.data.toList.drop k) (b := s.data.toList.drop (s.size - R.length + L.length)) (p := k) (q := s.size - R.length + L.length) (acc := acc) (by rw [hsk, hns.1, hd2]) (by rw [List.length_drop, List.length_drop, data_len]; omega))
      have hLp := hns.2
      have hRl := htd.2
      clear hsk hth htd hns hd2 hR
      go_wp2_with (first
        | (go_at_call 41; refine (htr _).mono ?_; rintro e w1 ⟨rfl, hb1⟩)
        | (go_at_call 42; refine (hp_call _ _).mono ?_; rintro e w' ⟨rfl, rfl⟩)
        | (go_at_call 43; refine (hcut _ (HWr.out.below hb1)).mono ?_; rintro e w2 ⟨b, c, rfl, hb2⟩))
      exact ⟨⟨s.size - R.length + L.length, acc, by omega, congrArg (Value.int .i64) (by omega), by omega, OwnR.below (OwnR.below HO.out hb1) hb2, (HF.out.below hb1).below hb2, by rw [HA.out, Hres.out]⟩, by simp [intOf]; omega⟩
    · have hpre' : Lib.hasPrefix R [47, 47] = false := by simpa using hpre
      have hhd : skip false R = R := by
        cases hRR : R with
        | nil => exact absurd hRR hR
        | cons c r => exact head_skip (hth c r hRR) (by rw [← hRR]; exact hpre')
      have hd2 := htd.1
      rw [hk1] at hd2
      have hsame := allFrom_same (a := s.data.toList.drop k) (b := R) (p := k) (q := s.size - R.length) (acc := acc) hsk (by rw [List.length_drop, data_len]; omega)
      have htok := fun W hW => lex_token ⟨R.toArray⟩ W (by rw [hRz]; omega) (by rw [hRz]; exact hRp) hW
      replace htok : ∀ W : World, LexW W → Calls Tryz.prog 44 #[.string ⟨R.toArray⟩] W fun e w' => e = tokL (tokS R) ∧ Below W.heap.size W w' := htok
      have hRl := htd.2
      rcases hT : tokS R with e | ⟨kd, t, n, m⟩
      · have he := tokS_err hT
        have Hres := Lib.hid (hsame.trans (allFrom_err hR hhd hT))
        rw [hT] at htok
        replace htok : ∀ W : World, LexW W → Calls Tryz.prog 44 #[.string ⟨R.toArray⟩] W fun e' w' => e' = .returned (.tuple #[tokV 0 [] 0 0, .int .i64 0, .int .i64 (e : Int)]) ∧ Below W.heap.size W w' := htok
        have hez : ((e : Int) != 0) = true := by simp; omega
        clear hsk hth htd hd2 hR hT hhd hsame hpre
        go_wp2_with (first
          | (go_at_call 41; refine (htr _).mono ?_; rintro e' w1 ⟨rfl, hb1⟩)
          | (go_at_call 42; refine (hp_call _ _).mono ?_; rintro e' w' ⟨rfl, rfl⟩)
          | (go_at_call 44; refine (htok _ (HWr.out.below hb1)).mono ?_; rintro e' w2 ⟨rfl, hb2⟩))
        rw [Exit.noGoto_ret]
        go_ret3
        rw [HA.out, Hres.out]
        refine ⟨(((HF.out.below hb1).below hb2).alloc _).to_below fun j hj => by simp [behind]; omega, ?_⟩
        show Ending.returned (.tuple #[.slice none 0 0, .int .i64 ((s.size : Int) - (R.length : Int)), .int .i64 (e : Int)]) = _
        rw [show ((s.size - R.length : Nat) : Int) = (s.size : Int) - (R.length : Int) by omega]
      · have hm := tokS_len hR hT
        have Hres := Lib.hid (hsame.trans (allFrom_tok hR hhd hT))
        rw [hT] at htok
        replace htok : ∀ W : World, LexW W → Calls Tryz.prog 44 #[.string ⟨R.toArray⟩] W fun e' w' => e' = .returned (.tuple #[tokV kd t n 0, .int .i64 (m : Int), .int .i64 0]) ∧ Below W.heap.size W w' := htok
        have hd3 := congrArg (List.drop m) hd2
        rw [List.drop_drop] at hd3
        have Hd3 := Lib.hid hd3
        clear hsk hth htd hd2 hR hT hhd hsame hpre hd3
        go_wp2_with (first
          | (go_at_call 41; refine (htr _).mono ?_; rintro e' w1 ⟨rfl, hb1⟩)
          | (go_at_call 42; refine (hp_call _ _).mono ?_; rintro e' w' ⟨rfl, rfl⟩)
          | (go_at_call 44; refine (htok _ (HWr.out.below hb1)).mono ?_; rintro e' w2 ⟨rfl, hb2⟩)
          | (at_builtin; refine wpT_append _ ⟨kd, t, n, s.size - R.length⟩ (.tmp 54) (.tmp 56) rfl rfl _ ?hcc 1 rfl (by rw [World.size_alloc]; rfl) (OwnR.alloc (OwnR.below (OwnR.below HO.out hb1) hb2) _) (((HF.out.below hb1).below hb2).alloc _) (by omega) (fun j h => Nat.le_trans (((HF.out.below hb1).below hb2).alloc _).size h) ?_; (case hcc => simp [tcells]; omega); intro v1 w3 hO1 hF1; clear HO HF))
        exact ⟨⟨s.size - R.length + m, acc ++ [⟨kd, t, n, s.size - R.length⟩], by omega, congrArg (Value.int .i64) (by omega), by simp; omega, hO1, hF1, by rw [HA.out, Hres.out, Hd3.out]⟩, by simp [intOf]; omega⟩
end Go.Proofs.YtlnhhffhmeekoaaGreatDoor
