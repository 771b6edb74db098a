/- The laws of segments: a text region's header. Conditions: none. -/
import Derived.Test.YtnpdnkmnnmmagaaSi
import Derived.Test.YtnpdnkmnnmmagaaSo
import Derived.Test.YtnpdnkmnnmmagaaSp
set_option linter.all false
namespace Go.Ab
section
variable {P : Prog} {H : Heap} {R : List As} {Q : Out → Heap → Prop}
def wkS : Sg := ⟨3, 3, 1, [0, 2], [true, false], false, [0, 0, 0, 0, 0]⟩
theorem wk_may : May wkS := ⟨by decide, by decide, by decide, by decide, by decide, fun _ => Or.inr rfl, by decide, by decide, by decide, by decide⟩
theorem wk_hdr : hdr wkS = [3, 3, 1, 2, 0, 2, 128, 5] := by
  have g : ∀ n, n < 128 → groups n = [n] := fun n h => by rw [groups, if_pos h]
  unfold hdr hdA wkS
  simp only [show (3 : Int).toNat = 3 from rfl, show (1 : Int).toNat = 1 from rfl, List.length_cons, List.length_nil, List.flatMap_cons, List.flatMap_nil, show (0 : Int).toNat = 0 from rfl, show (2 : Int).toNat = 2 from rfl,
    g 3 (by omega), g 1 (by omega), g (0 + 1 + 1) (by omega), g 0 (by omega), g 2 (by omega), g (0 + 1 + 1 + 1 + 1 + 1) (by omega)]
  decide
theorem wk_ok : wkS.Ok := ⟨by decide, by decide, by decide, by decide, by decide, by decide, by decide, by decide⟩
/-- A segment of one's own. -/
def sgT (v1 v2 v3 : V) (s : Sg) (R : List As) : List As := Lst v1 1 s.refs.length (i64s s.refs) :: Lst v2 1 s.keep.length (bools s.keep) :: Lst v3 1 s.data.length (u8s s.data) :: R
theorem sgT_r {v1 v2 v3 : V} {s : Sg} (hk : s.Ok) (R' : List As) {H' : Heap} (h : Hs H' (R' ++ sgT v1 v2 v3 s R)) : SgR H' v1 v2 v3 s :=
  ⟨(h.ownm (List.mem_append_right _ (by simp [sgT]))).arr, (h.ownm (List.mem_append_right _ (by simp [sgT]))).arr, (h.ownm (List.mem_append_right _ (by simp [sgT]))).arr, hk⟩
set_option maxHeartbeats 1000000 in
theorem wakes16_ct (hp : HasSeg P) (hb : HasBits P) (he : P 26 = some burinref0_Eq) (hs : Hs H R) (hQ : ∀ H', Hs H' R → Q (.ret (.bool true)) H') : Call P 167 [] H Q := by
  refine call_of hp.h_burinlaw16_wakes rfl ?_
  have g1 := (hs.alloc (l := i64s [0, 2])).toLst (n := 2) (e := 1) rfl
  have g2 := (g1.alloc (l := bools [true, false])).toLst (n := 2) (e := 1) rfl
  have g3 := (g2.alloc (l := u8s [0, 0, 0, 0, 0])).toLst (n := 5) (e := 1) rfl
  simp only [next_new] at g2 g3
  have g4 := g3.alloc (l := wkS.cells (.sl (some (H.next, 0)) 2 2 1) (.sl (some (H.next + 1, 0)) 2 2 1) (.sl (some (H.next + 1 + 1, 0)) 5 5 1))
  simp only [next_new] at g4
  simp -implicitDefEqProofs -dsimp (disch := omega) only [go_sem, Nat.reduceEqDiff, ↓reduceIte, Nat.reduceAdd, Nat.reduceMul, Nat.reduceSub, Nat.reduceLT, Nat.reduceLeDiff, Int.reduceLT, Int.reduceLE, Int.reduceEq, Int.reduceNeg, Int.reduceAdd, Int.reduceMul, Int.reduceSub, Int.reduceToNat, reduceCtorEq, dec_t, dec_f, ]
  generalize hH : (((H.new _).new _).new _).new _ = H4
  have g4 : Hs H4 (Cel (H.next + 1 + 1 + 1) [.int .i64 3, .int .i64 3, .int .i64 1, .sl (some (H.next, 0)) 2 2 1, .sl (some (H.next + 1, 0)) 2 2 1, .bool false, .sl (some (H.next + 1 + 1, 0)) 5 5 1] :: sgT (.sl (some (H.next, 0)) 2 2 1) (.sl (some (H.next + 1, 0)) 2 2 1) (.sl (some (H.next + 1 + 1, 0)) 5 5 1) wkS R) := by
    rw [← hH]
    exact Hs.perm g4 (List.Perm.cons _ ((List.reverse_perm [Lst (.sl (some (H.next, 0)) 2 2 1) 1 2 (i64s [0, 2]), Lst (.sl (some (H.next + 1, 0)) 2 2 1) 1 2 (bools [true, false]), Lst (.sl (some (H.next + 1 + 1, 0)) 5 5 1) 1 5 (u8s [0, 0, 0, 0, 0])]).append_right R))
  clear hH g1 g2 g3
  generalize H.next + 1 + 1 + 1 = b4 at *
  generalize (V.sl (some (H.next + 1 + 1, 0)) 5 5 1) = v3 at *
  generalize (V.sl (some (H.next + 1, 0)) 2 2 1) = v2 at *
  generalize (V.sl (some (H.next, 0)) 2 2 1) = v1 at *
  have r4 := rd_m g4.cel 7
  simp -implicitDefEqProofs -dsimp (disch := omega) only [go_sem, Nat.reduceEqDiff, ↓reduceIte, Nat.reduceAdd, Nat.reduceMul, Nat.reduceSub, Nat.reduceLT, Nat.reduceLeDiff, Int.reduceLT, Int.reduceLE, Int.reduceEq, Int.reduceNeg, Int.reduceAdd, Int.reduceMul, Int.reduceSub, Int.reduceToNat, reduceCtorEq, dec_t, dec_f, r4]
  refine encode_ct (s := wkS) hp hb (fun H' h => sgT_r wk_ok [Cel b4 _] h) g4 (fun _ v H5 g5 => ?_) (fun k => absurd wk_may k)
  rw [wk_hdr] at g5
  have hv := g5.own.arr
  obtain ⟨va, vc, ve, rfl⟩ := hv.shape
  have hd := dec_fwd wk_may (x := []) (y := []) (fun _ h => nomatch h)
  rw [List.nil_append, List.append_nil, wk_hdr] at hd
  simp -implicitDefEqProofs -dsimp (disch := omega) only [go_sem, Nat.reduceEqDiff, ↓reduceIte, Nat.reduceAdd, Nat.reduceMul, Nat.reduceSub, Nat.reduceLT, Nat.reduceLeDiff, Int.reduceLT, Int.reduceLE, Int.reduceEq, Int.reduceNeg, Int.reduceAdd, Int.reduceMul, Int.reduceSub, Int.reduceToNat, reduceCtorEq, dec_t, dec_f, ]
  refine decode_ct (f := [3, 3, 1, 2, 0, 2, 128, 5]) (p := 0) hp hb (by decide) hv (by decide) (by decide) g5 (fun s len a w1 w2 H6 e hsd g6 => ?_) (fun e H6 k => ?_)
  rotate_left
  · rw [show ((0 : Int)) = (([] : List Nat).length : Nat) from rfl, hd] at k; cases k
  rw [show ((0 : Int)) = (([] : List Nat).length : Nat) from rfl, hd] at e
  cases e
  have hw1 := g6.own.arr
  obtain ⟨w1a, w1c, w1e, rfl⟩ := hw1.shape
  obtain ⟨w2a, w2c, w2e, rfl⟩ := (Hs.p1 g6).own.arr.shape
  unfold withData wkS Sg.cells at *
  dsimp only at *
  have g7 := g6.alloc (l := [.int .i64 3, .int .i64 3, .int .i64 1, .sl w1a 2 w1c w1e, .sl w2a 2 w2c w2e, .bool false, .sl none 0 0 0])
  have g8 := (g7.alloc (l := u8s [3, 3, 1, 2, 0, 2, 128, 5])).toLst (n := 8) (e := 1) rfl
  rw [next_new] at g8
  simp -implicitDefEqProofs -dsimp (disch := omega) only [go_sem, Nat.reduceEqDiff, ↓reduceIte, Nat.reduceAdd, Nat.reduceMul, Nat.reduceSub, Nat.reduceLT, Nat.reduceLeDiff, Int.reduceLT, Int.reduceLE, Int.reduceEq, Int.reduceNeg, Int.reduceAdd, Int.reduceMul, Int.reduceSub, Int.reduceToNat, reduceCtorEq, dec_t, dec_f, ]
  have e8 : u8s [3, 3, 1, 2, 0, 2, 128, 5] = [.int .u8 3, .int .u8 3, .int .u8 1, .int .u8 2, .int .u8 0, .int .u8 2, .int .u8 128, .int .u8 5] := rfl
  rw [← e8]
  generalize (H6.new _).new _ = H8 at *
  generalize H6.next + 1 = b8 at *
  generalize H6.next = b7 at *
  refine eq_ct he (bs := [3, 3, 1, 2, 0, 2, 128, 5]) (cs := [3, 3, 1, 2, 0, 2, 128, 5]) ?_ g8.own.arr (by decide) ?_
  · exact (Hs.p4 g8).own.arr
  rw [dec_t rfl]
  have q7 := rd_s (Hs.p1 g8).cel
  have g9 := (g8.alloc (l := i64s [0, 2])).toLst (n := 2) (e := 1) rfl
  have e9 : i64s [0, 2] = [.int .i64 0, .int .i64 2] := rfl
  have q79 := rd_s (Hs.p2 g9).cel
  simp -implicitDefEqProofs -dsimp (disch := omega) only [go_sem, Nat.reduceEqDiff, ↓reduceIte, Nat.reduceAdd, Nat.reduceMul, Nat.reduceSub, Nat.reduceLT, Nat.reduceLeDiff, Int.reduceLT, Int.reduceLE, Int.reduceEq, Int.reduceNeg, Int.reduceAdd, Int.reduceMul, Int.reduceSub, Int.reduceToNat, reduceCtorEq, dec_t, dec_f, q7]
  rw [← e9]
  generalize H8.new _ = H9 at *
  generalize H8.next = b9 at *
  refine eqInts_ct hp (l := [0, 2]) (m := [0, 2]) ?_ g9.own.arr (by decide) ?_
  · exact (Hs.p3 g9).own.arr
  rw [dec_t rfl]
  have g10 := Hs.p5 (Hs.p5 g9).tail
  have r4 := rd_m (Hs.p5 (Hs.p5 g9).tail).cel 7
  simp -implicitDefEqProofs -dsimp (disch := omega) only [go_sem, Nat.reduceEqDiff, ↓reduceIte, Nat.reduceAdd, Nat.reduceMul, Nat.reduceSub, Nat.reduceLT, Nat.reduceLeDiff, Int.reduceLT, Int.reduceLE, Int.reduceEq, Int.reduceNeg, Int.reduceAdd, Int.reduceMul, Int.reduceSub, Int.reduceToNat, reduceCtorEq, dec_t, dec_f, r4]
  refine check_ct (s := wkS) hp (sgT_r wk_ok [_, _, _, _, _, _, _] g9) fun H10 s10 => ?_
  rw [mayB_t wk_may]
  simp -implicitDefEqProofs -dsimp (disch := omega) only [go_sem, Nat.reduceEqDiff, ↓reduceIte, Nat.reduceAdd, Nat.reduceMul, Nat.reduceSub, Nat.reduceLT, Nat.reduceLeDiff, Int.reduceLT, Int.reduceLE, Int.reduceEq, Int.reduceNeg, Int.reduceAdd, Int.reduceMul, Int.reduceSub, Int.reduceToNat, reduceCtorEq, dec_t, dec_f, ]
  exact hQ _ (g9.keep s10).tail.tail.tail.tail.tail.tail.tail.tail.tail.tail
end
end Go.Ab
