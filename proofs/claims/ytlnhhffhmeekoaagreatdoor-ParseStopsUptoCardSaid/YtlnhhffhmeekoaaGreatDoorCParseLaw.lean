/- The parser's walks: Program, Expr as they are exported; the laws' shown. -/
import Derived.Test.YtlnhhffhmeekoaaGreatDoorGParT
import Derived.Test.YtlnhhffhmeekoaaGreatDoorGParY
set_option linter.unusedVariables false
set_option linter.unusedSimpArgs false
namespace Go.Proofs.YtlnhhffhmeekoaaGreatDoor
open Go.RowKit Go.IntWalk
section
variable {w : World}
set_option maxRecDepth 20000 in
set_option maxHeartbeats 1000000 in
theorem wrap_end {n : N} {A : Option Addr} {ca : Nat} {at_ er : Nat} {W1 : World} (hb : Below w.heap.size w W1) (hO : OwN (fun b => w.heap.size + 1 ≤ b) W1 (cellsN n (.slice A n.kids.length ca)) n) :
    ReadE (n, at_, er) w (.returned (.tuple #[valO n (.slice A n.kids.length ca), .int .i64 (at_ : Int), .int .i64 (er : Int)])) ((((((((((W1.setCell ⟨w.heap.size, 0, none⟩ (.int .i64 n.kind)).setCell ⟨w.heap.size, 1, none⟩ (.string ⟨n.text.toArray⟩)).setCell ⟨w.heap.size, 2, none⟩ (.int .i64 n.val.kind)).setCell ⟨w.heap.size, 3, none⟩ (.int .i64 n.val.num)).setCell ⟨w.heap.size, 4, none⟩ (.string ⟨n.val.str.toArray⟩)).setCell ⟨w.heap.size, 5, none⟩ (.slice none 0 0)).setCell ⟨w.heap.size, 6, none⟩ (.slice none 0 0)).setCell ⟨w.heap.size, 7, none⟩ (.bool n.flag)).setCell ⟨w.heap.size, 8, none⟩ (.slice A n.kids.length ca)).setCell ⟨w.heap.size, 9, none⟩ (.int .i64 n.spot)) := by
  have hf := ten_res w.heap.size (.int .i64 n.kind) (.string ⟨n.text.toArray⟩) (.int .i64 n.val.kind) (.int .i64 n.val.num) (.string ⟨n.val.str.toArray⟩) (.slice none 0 0) (.slice none 0 0) (.bool n.flag) (.slice A n.kids.length ca) (.int .i64 n.spot) W1
  exact ⟨_, rfl, Fr.to_below ((Fr.of_below (ok := fun b => w.heap.size ≤ b) hb).past hf (fun b hb h => by omega)) (fun b hb h => by omega), (hO.fr hf (fun b _ h1 h2 => by omega)).imp (fun b _ h => by omega)⟩
set_option maxRecDepth 20000 in
set_option maxHeartbeats 1000000 in
theorem x_Program (s : ByteArray) (hs : s.size ≤ 9223372036854775807) (hW : LexW w) : Calls Tryz.prog 15 #[.string s] w (ReadE (parseP s.data.toList) w) := by
  have hal := p_al w (.cells zNode 29)
  have HI := Lib.hid (read_P s hs (hW.below hal))
  have H0 := Lib.hid (Box.new w zNode 29)
  have HS := Lib.hid hal
  clear hal hW
  generalize parseP s.data.toList = r at *
  obtain ⟨n, p, er⟩ := r
  go_enter Tryz.func15, Tryz.ntmps15
  go_wp2_with fail
  refine HI.out.mono ?_
  rintro e w1 ⟨lv, rfl, hb, hO⟩
  obtain ⟨A, ca, rfl⟩ := hO.lvs
  have hE := H0.out.below hb
  have HE := Lib.hid (wrap_end (at_ := p) (er := er) (bthen HS.out hb) (hO.imp (fun b _ h => by simpa using h)))
  obtain ⟨r0, r1, r2, r3, r4, r5, r6, r7, r8, r9⟩ := ten_cells hE
  obtain ⟨m0, m1, m2, m3, m4, m5, m6, m7, m8, m9⟩ := ten_melt hE
  clear hb hO hE HI H0 HS
  go_wp2_with fail
  refine bodyPost_ret (v := .tuple #[valO n (.slice A n.kids.length ca), .int .i64 (p : Int), .int .i64 (er : Int)]) (by simp [results, Tryz.results15, go_sem, r0, r1, r2, r3, r4, r5, r6, r7, r8, r9]) rfl ?_
  exact HE.out
set_option maxRecDepth 20000 in
set_option maxHeartbeats 1000000 in
theorem x_Expr (s : ByteArray) (hs : s.size ≤ 9223372036854775807) (hW : LexW w) : Calls Tryz.prog 12 #[.string s] w (ReadE (parseE s.data.toList) w) := by
  have hal := p_al w (.cells zNode 29)
  have HI := Lib.hid (read_E s hs (hW.below hal))
  have H0 := Lib.hid (Box.new w zNode 29)
  have HS := Lib.hid hal
  clear hal hW
  generalize parseE s.data.toList = r at *
  obtain ⟨n, p, er⟩ := r
  go_enter Tryz.func12, Tryz.ntmps12
  go_wp2_with fail
  refine HI.out.mono ?_
  rintro e w1 ⟨lv, rfl, hb, hO⟩
  obtain ⟨A, ca, rfl⟩ := hO.lvs
  have hE := H0.out.below hb
  have HE := Lib.hid (wrap_end (at_ := p) (er := er) (bthen HS.out hb) (hO.imp (fun b _ h => by simpa using h)))
  obtain ⟨r0, r1, r2, r3, r4, r5, r6, r7, r8, r9⟩ := ten_cells hE
  obtain ⟨m0, m1, m2, m3, m4, m5, m6, m7, m8, m9⟩ := ten_melt hE
  clear hb hO hE HI H0 HS
  go_wp2_with fail
  refine bodyPost_ret (v := .tuple #[valO n (.slice A n.kids.length ca), .int .i64 (p : Int), .int .i64 (er : Int)]) (by simp [results, Tryz.results12, go_sem, r0, r1, r2, r3, r4, r5, r6, r7, r8, r9]) rfl ?_
  exact HE.out
abbrev shT : List Tok := [⟨3, [], 1, 0⟩, ⟨5, [43], 0, 2⟩, ⟨1, [120], 0, 4⟩, ⟨0, [], 0, 5⟩]
abbrev shN : N := nodeP 17 [43] [litP (.mk 2 ((1 : Nat) : Int) [] [] []) 0, nodeP 14 [120] [] 4] 2
theorem bin_up {f k o : Nat} {ts r : List Tok} {n : N} (h : pBin f (k + 1) o ts = .ok n r) (hk : k ≤ 5) (h0 : bindT (hdT r) ≠ k) : pBin (f + 1) k o ts = .ok n r := by
  rw [pBin, if_neg (by omega), h]
  cases f with
  | zero => rw [pBin] at h; cases h
  | succ f =>
    show pBinT (f + 1) k o n r = _
    rw [pBinT, if_neg h0]
theorem prim_five {ts r : List Tok} {n : N} (hp : pPrim 1 0 ts = .ok n r) (h1 : isT [91] r = false) (h2 : isT [46] r = false) (h3 : isT [45] ts = false) (h4 : isT [33] ts = false) (h5 : bindT (hdT r) ≠ 5) : pBin 5 5 0 ts = .ok n r := by
  have hq : pPost 2 0 ts = .ok n r := by
    rw [pPost, hp]
    show pPostT 1 0 n r = _
    rw [pPostT, if_neg (by rw [h1]; simp), if_neg (by rw [h2]; simp)]
  have h6 : pBin 4 6 0 ts = .ok n r := by rw [pBin, if_pos (by omega), post_any h3 h4]; exact hq
  exact bin_up h6 (by omega) h5
theorem sh_bin : pBin 12 1 0 shT = .ok shN [⟨0, [], 0, 5⟩] := by
  have h1 : pBin 5 5 0 shT = .ok (litP (.mk 2 ((1 : Nat) : Int) [] [] []) 0) shT.tail := prim_five (by rw [pPrim]; rfl) (by rfl) (by rfl) (by rfl) (by rfl) (by decide)
  have h2 : pBin 5 5 0 shT.tail.tail = .ok (nodeP 14 [120] [] 4) [⟨0, [], 0, 5⟩] := prim_five (by rw [pPrim]; rfl) (by rfl) (by rfl) (by rfl) (by rfl) (by decide)
  have h1 := PR.le_ok ((upE 5 8 (by omega)).bin 5 0 _) h1
  have h2 := PR.le_ok ((upE 5 7 (by omega)).bin 5 0 _) h2
  have h3 : pBin 9 4 0 shT = .ok shN [⟨0, [], 0, 5⟩] := by
    rw [pBin, if_neg (by omega), h1]
    show pBinT 8 4 0 (litP (.mk 2 ((1 : Nat) : Int) [] [] []) 0) shT.tail = _
    rw [pBinT, if_pos (by decide), h2]
    show pBinT 7 4 0 shN [⟨0, [], 0, 5⟩] = _
    rw [pBinT, if_neg (by decide)]
  exact bin_up (bin_up (bin_up h3 (by omega) (by decide)) (by omega) (by decide)) (by omega) (by decide)
theorem sh_parse : parseE [49, 32, 43, 32, 120] = (shN, 0, 0) := by
  have hA : allS [49, 32, 43, 32, 120] = .ok shT := by rfl
  have h := PR.le_ok ((upE 12 80 (by omega)).bin 1 0 _) sh_bin
  have h2 : pExprTop (16 * shT.length + 16) shT = .ok shN [⟨0, [], 0, 5⟩] := by
    show pExprTop 80 shT = _
    rw [pExprTop, h]
    rfl
  unfold parseE readS
  rw [hA]
  simp only [h2]
set_option maxRecDepth 20000 in
set_option maxHeartbeats 1000000 in
theorem law_shownP (hW : LexW w) : Calls Tryz.prog 11 #[] w fun e w' => e = .returned (.bool true) ∧ Below w.heap.size w w' := by
  have HI := Lib.hid (x_Expr (w := w) ⟨#[49, 32, 43, 32, 120]⟩ (by decide) hW)
  rw [show (⟨#[49, 32, 43, 32, 120]⟩ : ByteArray).data.toList = [49, 32, 43, 32, 120] from rfl, sh_parse] at HI
  clear hW
  go_enter Tryz.func11, Tryz.ntmps11
  go_wp2_with fail
  refine HI.out.mono ?_
  rintro e w1 ⟨lv, rfl, hb, hO⟩
  obtain ⟨A, ca, rfl⟩ := hO.lvs
  have HB := Lib.hid hb
  clear hb hO HI
  go_wp2
  go_ret
  exact ⟨rfl, HB.out.alloc HB.out.size _⟩
end
end Go.Proofs.YtlnhhffhmeekoaaGreatDoor
