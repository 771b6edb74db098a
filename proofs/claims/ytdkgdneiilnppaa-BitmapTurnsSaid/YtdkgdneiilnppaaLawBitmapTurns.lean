/- The law BitmapTurns. Conditions: none. -/
import Derived.Test.YtdkgdneiilnppaaCv
import Derived.Test.YtdkgdneiilnppaaPL2Turns
set_option linter.all false
namespace Go.Ab

def BuI (H : Heap) (d : BmO) (p m t n : Nat) (k : Nat) (fr : Fr) (H' : Heap) : Prop :=
  ∃ y : Nat, k = d.hn - y ∧ y ≤ d.hn ∧ fr = ⟨[(1, .ptr (some (p, 0))), (3, .ptr (some (m, 0))), (5, .ptr (some (t, 0))), (8, .int .i64 n), (9, .int .i64 y)], []⟩ ∧ Hs H' [MapA t d.hn d.wn (fun i j => d.px j (d.hn - 1 - i)), MapA m d.wn d.hn d.px, Cel p [.int .i64 d.w, .int .i64 d.h, d.v], Bas H]
def BuJ (H : Heap) (d : BmO) (p m t n y : Nat) (k : Nat) (fr : Fr) (H' : Heap) : Prop :=
  ∃ x : Nat, k = d.wn - x ∧ x ≤ d.wn ∧ fr = ⟨[(1, .ptr (some (p, 0))), (3, .ptr (some (m, 0))), (5, .ptr (some (t, 0))), (8, .int .i64 n), (9, .int .i64 y), (10, .int .i64 x)], []⟩ ∧ Hs H' [MapA t d.hn d.wn (fun i j => d.px j (d.hn - 1 - i)), MapA m d.wn d.hn d.px, Cel p [.int .i64 d.w, .int .i64 d.h, d.v], Bas H]

set_option maxHeartbeats 2000000 in
theorem bitmapTurns {P : Prog} (hq : HasL2 P) (hg : P 107 = some burinlaw2_BitmapTurns) {H : Heap} {d : BmO} (kd : BmOk H d) :
    Call P 107 [.agg [.int .i64 d.w, .int .i64 d.h, d.v]] H fun o _ => o = .ret (.bool true) := by
  refine call_of hg rfl ?_
  have h1 := (Hs.start H).alloc (l := [.int .i64 d.w, .int .i64 d.h, d.v])
  have hc := h1.cel
  simp -implicitDefEqProofs -dsimp (disch := omega) only [go_sem, Nat.reduceEqDiff, ↓reduceIte, Nat.reduceAdd, Nat.reduceMul, Nat.reduceSub, Nat.reduceLT, Nat.reduceLeDiff, Int.reduceLT, Int.reduceLE, Int.reduceEq, Int.reduceNeg, Int.reduceAdd, Int.reduceMul, Int.reduceSub, Int.reduceToNat, reduceCtorEq, dec_t, dec_f, ]
  generalize H.new _ = H1 at *
  generalize H.next = p at *
  simp -implicitDefEqProofs -dsimp (disch := omega) only [go_sem, Nat.reduceEqDiff, ↓reduceIte, Nat.reduceAdd, Nat.reduceMul, Nat.reduceSub, Nat.reduceLT, Nat.reduceLeDiff, Int.reduceLT, Int.reduceLE, Int.reduceEq, Int.reduceNeg, Int.reduceAdd, Int.reduceMul, Int.reduceSub, Int.reduceToNat, reduceCtorEq, dec_t, dec_f, rd_m hc]
  refine mayO hq kd h1 (by simp) fun q H2 hq2 h2 => ?_
  have hc := h2.cel
  cases q with
  | false =>
    simp -implicitDefEqProofs -dsimp (disch := omega) only [go_sem, Nat.reduceEqDiff, ↓reduceIte, Nat.reduceAdd, Nat.reduceMul, Nat.reduceSub, Nat.reduceLT, Nat.reduceLeDiff, Int.reduceLT, Int.reduceLE, Int.reduceEq, Int.reduceNeg, Int.reduceAdd, Int.reduceMul, Int.reduceSub, Int.reduceToNat, reduceCtorEq, dec_t, dec_f, ]
    refine wakes_ct hq h2 fun H3 => ?_
    simp -implicitDefEqProofs -dsimp (disch := omega) only [go_sem, Nat.reduceEqDiff, ↓reduceIte, Nat.reduceAdd, Nat.reduceMul, Nat.reduceSub, Nat.reduceLT, Nat.reduceLeDiff, Int.reduceLT, Int.reduceLE, Int.reduceEq, Int.reduceNeg, Int.reduceAdd, Int.reduceMul, Int.reduceSub, Int.reduceToNat, reduceCtorEq, dec_t, dec_f, ]
  | true =>
  have hm := hq2.1 rfl
  have mm := bmM_of kd hm
  have h3 := h2.alloc (l := [.int .i64 d.w, .int .i64 d.h, d.v])
  simp -implicitDefEqProofs -dsimp (disch := omega) only [go_sem, Nat.reduceEqDiff, ↓reduceIte, Nat.reduceAdd, Nat.reduceMul, Nat.reduceSub, Nat.reduceLT, Nat.reduceLeDiff, Int.reduceLT, Int.reduceLE, Int.reduceEq, Int.reduceNeg, Int.reduceAdd, Int.reduceMul, Int.reduceSub, Int.reduceToNat, reduceCtorEq, dec_t, dec_f, rd_m hc]
  generalize H2.new _ = H3 at *
  generalize H2.next = bx at *
  refine smallO hq kd ⟨[], by rw [h3.cel]; rfl⟩ ?_
  have h4 := h3.tail
  have hc := h4.cel
  by_cases hsm : 64 * d.ws.length + 64 ≤ 60000
  · rw [decide_eq_true hsm]
    simp -implicitDefEqProofs -dsimp (disch := omega) only [go_sem, Nat.reduceEqDiff, ↓reduceIte, Nat.reduceAdd, Nat.reduceMul, Nat.reduceSub, Nat.reduceLT, Nat.reduceLeDiff, Int.reduceLT, Int.reduceLE, Int.reduceEq, Int.reduceNeg, Int.reduceAdd, Int.reduceMul, Int.reduceSub, Int.reduceToNat, reduceCtorEq, dec_t, dec_f, rd_m hc]
    refine fromO hq kd hm h4 (by simp) fun m H4 h5 => ?_
    simp -implicitDefEqProofs -dsimp (disch := omega) only [go_sem, Nat.reduceEqDiff, ↓reduceIte, Nat.reduceAdd, Nat.reduceMul, Nat.reduceSub, Nat.reduceLT, Nat.reduceLeDiff, Int.reduceLT, Int.reduceLE, Int.reduceEq, Int.reduceNeg, Int.reduceAdd, Int.reduceMul, Int.reduceSub, Int.reduceToNat, reduceCtorEq, dec_t, dec_f, ]
    refine mirror_ct hq.bm h5 fun c1 H5 h6 => ?_
    simp -implicitDefEqProofs -dsimp (disch := omega) only [go_sem, Nat.reduceEqDiff, ↓reduceIte, Nat.reduceAdd, Nat.reduceMul, Nat.reduceSub, Nat.reduceLT, Nat.reduceLeDiff, Int.reduceLT, Int.reduceLE, Int.reduceEq, Int.reduceNeg, Int.reduceAdd, Int.reduceMul, Int.reduceSub, Int.reduceToNat, reduceCtorEq, dec_t, dec_f, ]
    refine turn_ct hq.bm h6.tail fun c1 H5 h6 => ?_
    simp -implicitDefEqProofs -dsimp (disch := omega) only [go_sem, Nat.reduceEqDiff, ↓reduceIte, Nat.reduceAdd, Nat.reduceMul, Nat.reduceSub, Nat.reduceLT, Nat.reduceLeDiff, Int.reduceLT, Int.reduceLE, Int.reduceEq, Int.reduceNeg, Int.reduceAdd, Int.reduceMul, Int.reduceSub, Int.reduceToNat, reduceCtorEq, dec_t, dec_f, ]
    refine turn_ct hq.bm h6.tail fun t H6 h7 => ?_
    simp -implicitDefEqProofs -dsimp (disch := omega) only [go_sem, Nat.reduceEqDiff, ↓reduceIte, Nat.reduceAdd, Nat.reduceMul, Nat.reduceSub, Nat.reduceLT, Nat.reduceLeDiff, Int.reduceLT, Int.reduceLE, Int.reduceEq, Int.reduceNeg, Int.reduceAdd, Int.reduceMul, Int.reduceSub, Int.reduceToNat, reduceCtorEq, dec_t, dec_f, ]
    refine turn_ct hq.bm h7 fun tt H7 h8 => ?_
    simp -implicitDefEqProofs -dsimp (disch := omega) only [go_sem, Nat.reduceEqDiff, ↓reduceIte, Nat.reduceAdd, Nat.reduceMul, Nat.reduceSub, Nat.reduceLT, Nat.reduceLeDiff, Int.reduceLT, Int.reduceLE, Int.reduceEq, Int.reduceNeg, Int.reduceAdd, Int.reduceMul, Int.reduceSub, Int.reduceToNat, reduceCtorEq, dec_t, dec_f, ]
    refine turn_ct hq.bm h8 fun c2 H8 h9 => ?_
    simp -implicitDefEqProofs -dsimp (disch := omega) only [go_sem, Nat.reduceEqDiff, ↓reduceIte, Nat.reduceAdd, Nat.reduceMul, Nat.reduceSub, Nat.reduceLT, Nat.reduceLeDiff, Int.reduceLT, Int.reduceLE, Int.reduceEq, Int.reduceNeg, Int.reduceAdd, Int.reduceMul, Int.reduceSub, Int.reduceToNat, reduceCtorEq, dec_t, dec_f, ]
    refine turn_ct hq.bm h9.tail fun c2 H8 h9 => ?_
    simp -implicitDefEqProofs -dsimp (disch := omega) only [go_sem, Nat.reduceEqDiff, ↓reduceIte, Nat.reduceAdd, Nat.reduceMul, Nat.reduceSub, Nat.reduceLT, Nat.reduceLeDiff, Int.reduceLT, Int.reduceLE, Int.reduceEq, Int.reduceNeg, Int.reduceAdd, Int.reduceMul, Int.reduceSub, Int.reduceToNat, reduceCtorEq, dec_t, dec_f, ]
    refine turn_ct hq.bm h9 fun c3 H9 h10 => ?_
    have h11 := h10.sel [2, 3, 4, 5, 6] (by decide)
    simp -implicitDefEqProofs -dsimp (disch := omega) only [go_sem, Nat.reduceEqDiff, ↓reduceIte, Nat.reduceAdd, Nat.reduceMul, Nat.reduceSub, Nat.reduceLT, Nat.reduceLeDiff, Int.reduceLT, Int.reduceLE, Int.reduceEq, Int.reduceNeg, Int.reduceAdd, Int.reduceMul, Int.reduceSub, Int.reduceToNat, reduceCtorEq, dec_t, dec_f, ]
    refine mirror_ct hq.bm (h11.sel [2, 0, 1, 3, 4] (by decide)) fun c4 H10 h12 => ?_
    simp -implicitDefEqProofs -dsimp (disch := omega) only [go_sem, Nat.reduceEqDiff, ↓reduceIte, Nat.reduceAdd, Nat.reduceMul, Nat.reduceSub, Nat.reduceLT, Nat.reduceLeDiff, Int.reduceLT, Int.reduceLE, Int.reduceEq, Int.reduceNeg, Int.reduceAdd, Int.reduceMul, Int.reduceSub, Int.reduceToNat, reduceCtorEq, dec_t, dec_f, ]
    refine mirror_ct hq.bm h12 fun c5 H11 h13 => ?_
    simp -implicitDefEqProofs -dsimp (disch := omega) only [go_sem, Nat.reduceEqDiff, ↓reduceIte, Nat.reduceAdd, Nat.reduceMul, Nat.reduceSub, Nat.reduceLT, Nat.reduceLeDiff, Int.reduceLT, Int.reduceLE, Int.reduceEq, Int.reduceNeg, Int.reduceAdd, Int.reduceMul, Int.reduceSub, Int.reduceToNat, reduceCtorEq, dec_t, dec_f, ]
    refine mirror_ct hq.bm (h13.sel [4, 2, 3, 5, 6] (by decide)) fun c6 H12 h14 => ?_
    simp -implicitDefEqProofs -dsimp (disch := omega) only [go_sem, Nat.reduceEqDiff, ↓reduceIte, Nat.reduceAdd, Nat.reduceMul, Nat.reduceSub, Nat.reduceLT, Nat.reduceLeDiff, Int.reduceLT, Int.reduceLE, Int.reduceEq, Int.reduceNeg, Int.reduceAdd, Int.reduceMul, Int.reduceSub, Int.reduceToNat, reduceCtorEq, dec_t, dec_f, ]
    refine mirror_ct hq.bm (h14.sel [2, 1, 3, 4, 5] (by decide)) fun x0 H13 h15 => ?_
    simp -implicitDefEqProofs -dsimp (disch := omega) only [go_sem, Nat.reduceEqDiff, ↓reduceIte, Nat.reduceAdd, Nat.reduceMul, Nat.reduceSub, Nat.reduceLT, Nat.reduceLeDiff, Int.reduceLT, Int.reduceLE, Int.reduceEq, Int.reduceNeg, Int.reduceAdd, Int.reduceMul, Int.reduceSub, Int.reduceToNat, reduceCtorEq, dec_t, dec_f, ]
    refine turn_ct hq.bm h15 fun x H14 h16 => ?_
    simp -implicitDefEqProofs -dsimp (disch := omega) only [go_sem, Nat.reduceEqDiff, ↓reduceIte, Nat.reduceAdd, Nat.reduceMul, Nat.reduceSub, Nat.reduceLT, Nat.reduceLeDiff, Int.reduceLT, Int.reduceLE, Int.reduceEq, Int.reduceNeg, Int.reduceAdd, Int.reduceMul, Int.reduceSub, Int.reduceToNat, reduceCtorEq, dec_t, dec_f, ]
    have h17 := h16.sel [0, 2, 3, 4, 5, 6] (by decide)
    refine turn_ct hq.bm h17 fun y1 H15 h18 => ?_
    simp -implicitDefEqProofs -dsimp (disch := omega) only [go_sem, Nat.reduceEqDiff, ↓reduceIte, Nat.reduceAdd, Nat.reduceMul, Nat.reduceSub, Nat.reduceLT, Nat.reduceLeDiff, Int.reduceLT, Int.reduceLE, Int.reduceEq, Int.reduceNeg, Int.reduceAdd, Int.reduceMul, Int.reduceSub, Int.reduceToNat, reduceCtorEq, dec_t, dec_f, ]
    refine turn_ct hq.bm h18.tail fun y2 H16 h19 => ?_
    simp -implicitDefEqProofs -dsimp (disch := omega) only [go_sem, Nat.reduceEqDiff, ↓reduceIte, Nat.reduceAdd, Nat.reduceMul, Nat.reduceSub, Nat.reduceLT, Nat.reduceLeDiff, Int.reduceLT, Int.reduceLE, Int.reduceEq, Int.reduceNeg, Int.reduceAdd, Int.reduceMul, Int.reduceSub, Int.reduceToNat, reduceCtorEq, dec_t, dec_f, ]
    refine turn_ct hq.bm h19 fun y3 H17 h20 => ?_
    have h21 := h20.sel [3, 2, 4, 5, 6, 7] (by decide)
    simp -implicitDefEqProofs -dsimp (disch := omega) only [go_sem, Nat.reduceEqDiff, ↓reduceIte, Nat.reduceAdd, Nat.reduceMul, Nat.reduceSub, Nat.reduceLT, Nat.reduceLeDiff, Int.reduceLT, Int.reduceLE, Int.reduceEq, Int.reduceNeg, Int.reduceAdd, Int.reduceMul, Int.reduceSub, Int.reduceToNat, reduceCtorEq, dec_t, dec_f, ]
    refine count_ct hq.bm h21 ?_
    simp -implicitDefEqProofs -dsimp (disch := omega) only [go_sem, Nat.reduceEqDiff, ↓reduceIte, Nat.reduceAdd, Nat.reduceMul, Nat.reduceSub, Nat.reduceLT, Nat.reduceLeDiff, Int.reduceLT, Int.reduceLE, Int.reduceEq, Int.reduceNeg, Int.reduceAdd, Int.reduceMul, Int.reduceSub, Int.reduceToNat, reduceCtorEq, dec_t, dec_f, ]
    have hcA := fun {H' : Heap} (h : Hs H' [Cel p [.int .i64 d.w, .int .i64 d.h, d.v], Bas H]) => (show rd H' (some 3) p 0 = some (.agg [.int .i64 d.w, .int .i64 d.h, d.v]) by rw [rd_m h.cel]; rfl)
    have hc0 := hcA (h21.sel [4, 5] (by decide))
    simp -implicitDefEqProofs -dsimp (disch := omega) only [go_sem, Nat.reduceEqDiff, ↓reduceIte, Nat.reduceAdd, Nat.reduceMul, Nat.reduceSub, Nat.reduceLT, Nat.reduceLeDiff, Int.reduceLT, Int.reduceLE, Int.reduceEq, Int.reduceNeg, Int.reduceAdd, Int.reduceMul, Int.reduceSub, Int.reduceToNat, reduceCtorEq, dec_t, dec_f, hc0]
    refine mirror_ct hq.bm h21 fun a1 H18 h22 => ?_
    have hc1 := hcA (h22.sel [5, 6] (by decide))
    simp -implicitDefEqProofs -dsimp (disch := omega) only [go_sem, Nat.reduceEqDiff, ↓reduceIte, Nat.reduceAdd, Nat.reduceMul, Nat.reduceSub, Nat.reduceLT, Nat.reduceLeDiff, Int.reduceLT, Int.reduceLE, Int.reduceEq, Int.reduceNeg, Int.reduceAdd, Int.reduceMul, Int.reduceSub, Int.reduceToNat, reduceCtorEq, dec_t, dec_f, ]
    refine aft_intro (by simp [rechecks, recheck, fresh, Fr.get, look, step, opd, hc1]) ?_
    simp -implicitDefEqProofs -dsimp (disch := omega) only [go_sem, Nat.reduceEqDiff, ↓reduceIte, Nat.reduceAdd, Nat.reduceMul, Nat.reduceSub, Nat.reduceLT, Nat.reduceLeDiff, Int.reduceLT, Int.reduceLE, Int.reduceEq, Int.reduceNeg, Int.reduceAdd, Int.reduceMul, Int.reduceSub, Int.reduceToNat, reduceCtorEq, dec_t, dec_f, ]
    refine mirror_ct hq.bm h22 fun a2 H19 h23 => ?_
    have hc2 := hcA (h23.sel [6, 7] (by decide))
    simp -implicitDefEqProofs -dsimp (disch := omega) only [go_sem, Nat.reduceEqDiff, ↓reduceIte, Nat.reduceAdd, Nat.reduceMul, Nat.reduceSub, Nat.reduceLT, Nat.reduceLeDiff, Int.reduceLT, Int.reduceLE, Int.reduceEq, Int.reduceNeg, Int.reduceAdd, Int.reduceMul, Int.reduceSub, Int.reduceToNat, reduceCtorEq, dec_t, dec_f, ]
    refine aft_intro (by simp [rechecks, recheck, fresh, Fr.get, look, step, opd, hc2]) ?_
    simp -implicitDefEqProofs -dsimp (disch := omega) only [go_sem, Nat.reduceEqDiff, ↓reduceIte, Nat.reduceAdd, Nat.reduceMul, Nat.reduceSub, Nat.reduceLT, Nat.reduceLeDiff, Int.reduceLT, Int.reduceLE, Int.reduceEq, Int.reduceNeg, Int.reduceAdd, Int.reduceMul, Int.reduceSub, Int.reduceToNat, reduceCtorEq, dec_t, dec_f, ]
    refine sameO hq kd mm h23 (by simp [picks]) fun H20 h24 => ?_
    rw [decide_eq_true (fun x y hx hy => by rw [show d.wn - 1 - (d.wn - 1 - x) = x by omega])]
    have h25 := h24.sel [5, 2, 3, 4, 6, 7] (by decide)
    have hc3 := hcA (h25.sel [4, 5] (by decide))
    simp -implicitDefEqProofs -dsimp (disch := omega) only [go_sem, Nat.reduceEqDiff, ↓reduceIte, Nat.reduceAdd, Nat.reduceMul, Nat.reduceSub, Nat.reduceLT, Nat.reduceLeDiff, Int.reduceLT, Int.reduceLE, Int.reduceEq, Int.reduceNeg, Int.reduceAdd, Int.reduceMul, Int.reduceSub, Int.reduceToNat, reduceCtorEq, dec_t, dec_f, d_gre, hc3]
    refine turn_ct hq.bm h25 fun b1 H21 h26 => ?_
    have hc4 := hcA (h26.sel [5, 6] (by decide))
    simp -implicitDefEqProofs -dsimp (disch := omega) only [go_sem, Nat.reduceEqDiff, ↓reduceIte, Nat.reduceAdd, Nat.reduceMul, Nat.reduceSub, Nat.reduceLT, Nat.reduceLeDiff, Int.reduceLT, Int.reduceLE, Int.reduceEq, Int.reduceNeg, Int.reduceAdd, Int.reduceMul, Int.reduceSub, Int.reduceToNat, reduceCtorEq, dec_t, dec_f, ]
    refine aft_intro (by simp [rechecks, recheck, fresh, Fr.get, look, step, opd, hc4]) ?_
    simp -implicitDefEqProofs -dsimp (disch := omega) only [go_sem, Nat.reduceEqDiff, ↓reduceIte, Nat.reduceAdd, Nat.reduceMul, Nat.reduceSub, Nat.reduceLT, Nat.reduceLeDiff, Int.reduceLT, Int.reduceLE, Int.reduceEq, Int.reduceNeg, Int.reduceAdd, Int.reduceMul, Int.reduceSub, Int.reduceToNat, reduceCtorEq, dec_t, dec_f, d_gre]
    refine turn_ct hq.bm h26 fun b2 H22 h27 => ?_
    have hc5 := hcA (h27.sel [6, 7] (by decide))
    simp -implicitDefEqProofs -dsimp (disch := omega) only [go_sem, Nat.reduceEqDiff, ↓reduceIte, Nat.reduceAdd, Nat.reduceMul, Nat.reduceSub, Nat.reduceLT, Nat.reduceLeDiff, Int.reduceLT, Int.reduceLE, Int.reduceEq, Int.reduceNeg, Int.reduceAdd, Int.reduceMul, Int.reduceSub, Int.reduceToNat, reduceCtorEq, dec_t, dec_f, ]
    refine aft_intro (by simp [rechecks, recheck, fresh, Fr.get, look, step, opd, hc5]) ?_
    simp -implicitDefEqProofs -dsimp (disch := omega) only [go_sem, Nat.reduceEqDiff, ↓reduceIte, Nat.reduceAdd, Nat.reduceMul, Nat.reduceSub, Nat.reduceLT, Nat.reduceLeDiff, Int.reduceLT, Int.reduceLE, Int.reduceEq, Int.reduceNeg, Int.reduceAdd, Int.reduceMul, Int.reduceSub, Int.reduceToNat, reduceCtorEq, dec_t, dec_f, ]
    refine sameO hq kd mm h27 (by simp [picks]) fun H23 h28 => ?_
    rw [decide_eq_true (fun x y hx hy => by
      show d.px _ _ = d.px _ _
      congr 1 <;> omega)]
    simp -implicitDefEqProofs -dsimp (disch := omega) only [go_sem, Nat.reduceEqDiff, ↓reduceIte, Nat.reduceAdd, Nat.reduceMul, Nat.reduceSub, Nat.reduceLT, Nat.reduceLeDiff, Int.reduceLT, Int.reduceLE, Int.reduceEq, Int.reduceNeg, Int.reduceAdd, Int.reduceMul, Int.reduceSub, Int.reduceToNat, reduceCtorEq, dec_t, dec_f, d_gre]
    refine mirror_ct hq.bm (h28.sel [5, 3, 4, 6, 7] (by decide)) fun t1 H24 h29 => ?_
    simp -implicitDefEqProofs -dsimp (disch := omega) only [go_sem, Nat.reduceEqDiff, ↓reduceIte, Nat.reduceAdd, Nat.reduceMul, Nat.reduceSub, Nat.reduceLT, Nat.reduceLeDiff, Int.reduceLT, Int.reduceLE, Int.reduceEq, Int.reduceNeg, Int.reduceAdd, Int.reduceMul, Int.reduceSub, Int.reduceToNat, reduceCtorEq, dec_t, dec_f, ]
    refine plain_ct hq.bm h29 fun v1 H25 h30 _ => ?_
    simp -implicitDefEqProofs -dsimp (disch := omega) only [go_sem, Nat.reduceEqDiff, ↓reduceIte, Nat.reduceAdd, Nat.reduceMul, Nat.reduceSub, Nat.reduceLT, Nat.reduceLeDiff, Int.reduceLT, Int.reduceLE, Int.reduceEq, Int.reduceNeg, Int.reduceAdd, Int.reduceMul, Int.reduceSub, Int.reduceToNat, reduceCtorEq, dec_t, dec_f, ]
    refine turn_ct hq.bm (h30.sel [4, 0, 2, 3, 5, 6] (by decide)) fun x1 H26 h31 => ?_
    simp -implicitDefEqProofs -dsimp (disch := omega) only [go_sem, Nat.reduceEqDiff, ↓reduceIte, Nat.reduceAdd, Nat.reduceMul, Nat.reduceSub, Nat.reduceLT, Nat.reduceLeDiff, Int.reduceLT, Int.reduceLE, Int.reduceEq, Int.reduceNeg, Int.reduceAdd, Int.reduceMul, Int.reduceSub, Int.reduceToNat, reduceCtorEq, dec_t, dec_f, ]
    refine turn_ct hq.bm h31 fun x2 H27 h32 => ?_
    simp -implicitDefEqProofs -dsimp (disch := omega) only [go_sem, Nat.reduceEqDiff, ↓reduceIte, Nat.reduceAdd, Nat.reduceMul, Nat.reduceSub, Nat.reduceLT, Nat.reduceLeDiff, Int.reduceLT, Int.reduceLE, Int.reduceEq, Int.reduceNeg, Int.reduceAdd, Int.reduceMul, Int.reduceSub, Int.reduceToNat, reduceCtorEq, dec_t, dec_f, ]
    refine plain_ct hq.bm h32 fun v2 H28 h33 _ => ?_
    have kw := wds_le mm.area mm.w1
    have kw2 := wds_le (show d.hn * d.wn ≤ 1048576 by rw [Nat.mul_comm]; exact mm.area) mm.h1
    simp -implicitDefEqProofs -dsimp (disch := omega) only [go_sem, Nat.reduceEqDiff, ↓reduceIte, Nat.reduceAdd, Nat.reduceMul, Nat.reduceSub, Nat.reduceLT, Nat.reduceLeDiff, Int.reduceLT, Int.reduceLE, Int.reduceEq, Int.reduceNeg, Int.reduceAdd, Int.reduceMul, Int.reduceSub, Int.reduceToNat, reduceCtorEq, dec_t, dec_f, ]
    refine eqb_ct hq.rz h33 (h33.sel [4] (by decide)).own.arr h33.own.arr (by rw [Wds_length]; omega) fun H29 h34 _ => ?_
    rw [decide_eq_true ⟨rfl, rfl, Wds_congr fun i j hi hj => by
      show d.px _ _ = d.px _ _
      congr 1 <;> omega⟩]
    simp -implicitDefEqProofs -dsimp (disch := omega) only [go_sem, Nat.reduceEqDiff, ↓reduceIte, Nat.reduceAdd, Nat.reduceMul, Nat.reduceSub, Nat.reduceLT, Nat.reduceLeDiff, Int.reduceLT, Int.reduceLE, Int.reduceEq, Int.reduceNeg, Int.reduceAdd, Int.reduceMul, Int.reduceSub, Int.reduceToNat, reduceCtorEq, dec_t, dec_f, ]
    have h35 := h34.sel [5, 6, 7, 8] (by decide)
    refine count_ct hq.bm h35 ?_
    rw [cnt2_turn]
    have a1 := Nat.le_mul_of_pos_right d.wn (show 0 < d.hn by have := mm.h1; omega)
    have a2 := Nat.le_mul_of_pos_left d.hn (show 0 < d.wn by have := mm.w1; omega)
    have a3 := mm.area
    have ew := mm.w
    have eh := mm.h
    have hcn := cnt2_not d.wn d.px d.hn
    have hcl := cnt2_le d.wn d.px d.hn
    simp -implicitDefEqProofs -dsimp (disch := omega) only [go_sem, Nat.reduceEqDiff, ↓reduceIte, Nat.reduceAdd, Nat.reduceMul, Nat.reduceSub, Nat.reduceLT, Nat.reduceLeDiff, Int.reduceLT, Int.reduceLE, Int.reduceEq, Int.reduceNeg, Int.reduceAdd, Int.reduceMul, Int.reduceSub, Int.reduceToNat, reduceCtorEq, dec_t, dec_f, ]
    generalize hcn' : cnt2 d.wn d.px d.hn = n at *
    refine loop_inv (BuI H d p m t n) ?_ d.hn _ _ ⟨0, by omega, by omega, rfl, h35⟩
    rintro k fr H30 ⟨y, hk, hy, rfl, h36⟩
    generalize hK : rnd (BuI H d p m t n) k = K
    have hc := (h36.sel [2, 3] (by decide)).cel
    by_cases hyh : y < d.hn
    · simp -implicitDefEqProofs -dsimp (disch := omega) only [go_sem, Nat.reduceEqDiff, ↓reduceIte, Nat.reduceAdd, Nat.reduceMul, Nat.reduceSub, Nat.reduceLT, Nat.reduceLeDiff, Int.reduceLT, Int.reduceLE, Int.reduceEq, Int.reduceNeg, Int.reduceAdd, Int.reduceMul, Int.reduceSub, Int.reduceToNat, reduceCtorEq, dec_t, dec_f, burinlaw2_BitmapTurns_l0, rd_s hc]
      refine loop_inv (BuJ H d p m t n y) ?_ d.wn _ _ ⟨0, by omega, by omega, rfl, h36⟩
      rintro k2 fr2 H31 ⟨x, hk2, hx, rfl, h37⟩
      generalize hK2 : rnd (BuJ H d p m t n y) k2 = K2
      have hc := (h37.sel [2, 3] (by decide)).cel
      by_cases hxw : x < d.wn
      · have hcm := hcA (h37.sel [2, 3] (by decide))
        simp -implicitDefEqProofs -dsimp (disch := omega) only [go_sem, Nat.reduceEqDiff, ↓reduceIte, Nat.reduceAdd, Nat.reduceMul, Nat.reduceSub, Nat.reduceLT, Nat.reduceLeDiff, Int.reduceLT, Int.reduceLE, Int.reduceEq, Int.reduceNeg, Int.reduceAdd, Int.reduceMul, Int.reduceSub, Int.reduceToNat, reduceCtorEq, dec_t, dec_f, burinlaw2_BitmapTurns_l1, rd_s hc, hcm, w64]
        refine get_ct hq.bm h37 ?_
        rw [show getV d.hn d.wn (fun i j => d.px j (d.hn - 1 - i)) (d.h - 1 - (y : Int)) (x : Int) = (d.px x y).toNat by
          unfold getV; rw [if_pos (by omega), Int.toNat_natCast]; show (d.px x (d.hn - 1 - (d.h - 1 - (y : Int)).toNat)).toNat = _; rw [show d.hn - 1 - (d.h - 1 - (y : Int)).toNat = y by omega]]
        simp -implicitDefEqProofs -dsimp (disch := omega) only [go_sem, Nat.reduceEqDiff, ↓reduceIte, Nat.reduceAdd, Nat.reduceMul, Nat.reduceSub, Nat.reduceLT, Nat.reduceLeDiff, Int.reduceLT, Int.reduceLE, Int.reduceEq, Int.reduceNeg, Int.reduceAdd, Int.reduceMul, Int.reduceSub, Int.reduceToNat, reduceCtorEq, dec_t, dec_f, ]
        refine aft_intro (by simp [rechecks, recheck, fresh, Fr.get, look, step, opd, hcm]) ?_
        simp -implicitDefEqProofs -dsimp (disch := omega) only [go_sem, Nat.reduceEqDiff, ↓reduceIte, Nat.reduceAdd, Nat.reduceMul, Nat.reduceSub, Nat.reduceLT, Nat.reduceLeDiff, Int.reduceLT, Int.reduceLE, Int.reduceEq, Int.reduceNeg, Int.reduceAdd, Int.reduceMul, Int.reduceSub, Int.reduceToNat, reduceCtorEq, dec_t, dec_f, ]
        refine getO hq kd mm h37 (by simp [picks]) fun H32 h38 => ?_
        rw [show getV d.wn d.hn d.px (x : Int) (y : Int) = (d.px x y).toNat by unfold getV; rw [if_pos (by omega), Int.toNat_natCast, Int.toNat_natCast]]
        simp -implicitDefEqProofs -dsimp (disch := omega) only [go_sem, Nat.reduceEqDiff, ↓reduceIte, Nat.reduceAdd, Nat.reduceMul, Nat.reduceSub, Nat.reduceLT, Nat.reduceLeDiff, Int.reduceLT, Int.reduceLE, Int.reduceEq, Int.reduceNeg, Int.reduceAdd, Int.reduceMul, Int.reduceSub, Int.reduceToNat, reduceCtorEq, dec_t, dec_f, w64, cadd1]
        subst hK2
        exact rnd_n (d.wn - (x + 1)) (by omega) ⟨x + 1, rfl, by omega, rfl, h38⟩
      · obtain rfl : x = d.wn := by omega
        simp -implicitDefEqProofs -dsimp (disch := omega) only [go_sem, Nat.reduceEqDiff, ↓reduceIte, Nat.reduceAdd, Nat.reduceMul, Nat.reduceSub, Nat.reduceLT, Nat.reduceLeDiff, Int.reduceLT, Int.reduceLE, Int.reduceEq, Int.reduceNeg, Int.reduceAdd, Int.reduceMul, Int.reduceSub, Int.reduceToNat, reduceCtorEq, dec_t, dec_f, burinlaw2_BitmapTurns_l1, rd_s hc]
        subst hK2
        simp -implicitDefEqProofs -dsimp (disch := omega) only [go_sem, Nat.reduceEqDiff, ↓reduceIte, Nat.reduceAdd, Nat.reduceMul, Nat.reduceSub, Nat.reduceLT, Nat.reduceLeDiff, Int.reduceLT, Int.reduceLE, Int.reduceEq, Int.reduceNeg, Int.reduceAdd, Int.reduceMul, Int.reduceSub, Int.reduceToNat, reduceCtorEq, dec_t, dec_f, w64, cadd1]
        subst hK
        exact rnd_n (d.hn - (y + 1)) (by omega) ⟨y + 1, rfl, by omega, rfl, h37⟩
    · obtain rfl : y = d.hn := by omega
      simp -implicitDefEqProofs -dsimp (disch := omega) only [go_sem, Nat.reduceEqDiff, ↓reduceIte, Nat.reduceAdd, Nat.reduceMul, Nat.reduceSub, Nat.reduceLT, Nat.reduceLeDiff, Int.reduceLT, Int.reduceLE, Int.reduceEq, Int.reduceNeg, Int.reduceAdd, Int.reduceMul, Int.reduceSub, Int.reduceToNat, reduceCtorEq, dec_t, dec_f, burinlaw2_BitmapTurns_l0, rd_s hc]
      subst hK
      simp -implicitDefEqProofs -dsimp (disch := omega) only [go_sem, Nat.reduceEqDiff, ↓reduceIte, Nat.reduceAdd, Nat.reduceMul, Nat.reduceSub, Nat.reduceLT, Nat.reduceLeDiff, Int.reduceLT, Int.reduceLE, Int.reduceEq, Int.reduceNeg, Int.reduceAdd, Int.reduceMul, Int.reduceSub, Int.reduceToNat, reduceCtorEq, dec_t, dec_f, ]
      refine inv_ct hq.bm (h36.sel [1, 2, 3] (by decide)) fun H31 h37 => ?_
      have hc := h37.p1.cel
      have em : d.w * d.h = ((d.hn * d.wn : Nat) : Int) := by rw [ew, eh, ← Int.natCast_mul, Nat.mul_comm]
      have em2 : d.hn * d.wn ≤ 1048576 := by rw [Nat.mul_comm]; exact a3
      simp -implicitDefEqProofs -dsimp (disch := omega) only [go_sem, Nat.reduceEqDiff, ↓reduceIte, Nat.reduceAdd, Nat.reduceMul, Nat.reduceSub, Nat.reduceLT, Nat.reduceLeDiff, Int.reduceLT, Int.reduceLE, Int.reduceEq, Int.reduceNeg, Int.reduceAdd, Int.reduceMul, Int.reduceSub, Int.reduceToNat, reduceCtorEq, dec_t, dec_f, rd_s hc, em, w64]
      refine count_ct hq.bm h37 ?_
      simp -implicitDefEqProofs -dsimp (disch := omega) only [go_sem, Nat.reduceEqDiff, ↓reduceIte, Nat.reduceAdd, Nat.reduceMul, Nat.reduceSub, Nat.reduceLT, Nat.reduceLeDiff, Int.reduceLT, Int.reduceLE, Int.reduceEq, Int.reduceNeg, Int.reduceAdd, Int.reduceMul, Int.reduceSub, Int.reduceToNat, reduceCtorEq, dec_t, dec_f, ]
      refine aft_intro (by simp [rechecks, recheck, fresh, Fr.get, look, step, opd, rd_s hc]) ?_
      have e1 : cnt2 d.wn (fun i j => !d.px i j) d.hn = d.hn * d.wn - n := by omega
      have e2 : ((d.hn * d.wn - n : Nat) : Int) = ((d.hn * d.wn : Nat) : Int) - (n : Int) := by omega
      rw [e1]
      simp -implicitDefEqProofs -dsimp (disch := omega) only [go_sem, Nat.reduceEqDiff, ↓reduceIte, Nat.reduceAdd, Nat.reduceMul, Nat.reduceSub, Nat.reduceLT, Nat.reduceLeDiff, Int.reduceLT, Int.reduceLE, Int.reduceEq, Int.reduceNeg, Int.reduceAdd, Int.reduceMul, Int.reduceSub, Int.reduceToNat, reduceCtorEq, dec_t, dec_f, e2]
      refine plain_ct hq.bm h37 fun v3 H32 h38 _ => ?_
      simp -implicitDefEqProofs -dsimp (disch := omega) only [go_sem, Nat.reduceEqDiff, ↓reduceIte, Nat.reduceAdd, Nat.reduceMul, Nat.reduceSub, Nat.reduceLT, Nat.reduceLeDiff, Int.reduceLT, Int.reduceLE, Int.reduceEq, Int.reduceNeg, Int.reduceAdd, Int.reduceMul, Int.reduceSub, Int.reduceToNat, reduceCtorEq, dec_t, dec_f, ]
      refine may_ct hq.rz h38 h38.own.arr (Wds_lt _ _ _) (by unfold i64r; omega) (by unfold i64r; omega) fun b H33 hb h39 _ => ?_
      obtain rfl : b = true := hb.2 (mayB_Wds mm.w1 mm.h1 mm.area)
      simp -implicitDefEqProofs -dsimp (disch := omega) only [go_sem, Nat.reduceEqDiff, ↓reduceIte, Nat.reduceAdd, Nat.reduceMul, Nat.reduceSub, Nat.reduceLT, Nat.reduceLeDiff, Int.reduceLT, Int.reduceLE, Int.reduceEq, Int.reduceNeg, Int.reduceAdd, Int.reduceMul, Int.reduceSub, Int.reduceToNat, reduceCtorEq, dec_t, dec_f, ]
      refine inv_ct hq.bm h39.tail fun H34 h40 => ?_
      have hcm := hcA h40.tail
      simp -implicitDefEqProofs -dsimp (disch := omega) only [go_sem, Nat.reduceEqDiff, ↓reduceIte, Nat.reduceAdd, Nat.reduceMul, Nat.reduceSub, Nat.reduceLT, Nat.reduceLeDiff, Int.reduceLT, Int.reduceLE, Int.reduceEq, Int.reduceNeg, Int.reduceAdd, Int.reduceMul, Int.reduceSub, Int.reduceToNat, reduceCtorEq, dec_t, dec_f, hcm]
      refine sameO hq kd mm h40 (by simp [picks]) fun H35 h41 => ?_
      rw [decide_eq_true (fun x y hx hy => Bool.not_not _)]
      simp -implicitDefEqProofs -dsimp (disch := omega) only [go_sem, Nat.reduceEqDiff, ↓reduceIte, Nat.reduceAdd, Nat.reduceMul, Nat.reduceSub, Nat.reduceLT, Nat.reduceLeDiff, Int.reduceLT, Int.reduceLE, Int.reduceEq, Int.reduceNeg, Int.reduceAdd, Int.reduceMul, Int.reduceSub, Int.reduceToNat, reduceCtorEq, dec_t, dec_f, ]
      refine wakes_ct hq h41 fun H36 => ?_
      simp -implicitDefEqProofs -dsimp (disch := omega) only [go_sem, Nat.reduceEqDiff, ↓reduceIte, Nat.reduceAdd, Nat.reduceMul, Nat.reduceSub, Nat.reduceLT, Nat.reduceLeDiff, Int.reduceLT, Int.reduceLE, Int.reduceEq, Int.reduceNeg, Int.reduceAdd, Int.reduceMul, Int.reduceSub, Int.reduceToNat, reduceCtorEq, dec_t, dec_f, ]
  · rw [decide_eq_false hsm]
    simp -implicitDefEqProofs -dsimp (disch := omega) only [go_sem, Nat.reduceEqDiff, ↓reduceIte, Nat.reduceAdd, Nat.reduceMul, Nat.reduceSub, Nat.reduceLT, Nat.reduceLeDiff, Int.reduceLT, Int.reduceLE, Int.reduceEq, Int.reduceNeg, Int.reduceAdd, Int.reduceMul, Int.reduceSub, Int.reduceToNat, reduceCtorEq, dec_t, dec_f, ]
    refine wakes_ct hq h4 fun H3 => ?_
    simp -implicitDefEqProofs -dsimp (disch := omega) only [go_sem, Nat.reduceEqDiff, ↓reduceIte, Nat.reduceAdd, Nat.reduceMul, Nat.reduceSub, Nat.reduceLT, Nat.reduceLeDiff, Int.reduceLT, Int.reduceLE, Int.reduceEq, Int.reduceNeg, Int.reduceAdd, Int.reduceMul, Int.reduceSub, Int.reduceToNat, reduceCtorEq, dec_t, dec_f, ]
theorem law_BitmapTurns {P : Prog} (hp : HasL2 P) (hg : P 107 = some burinlaw2_BitmapTurns) (H : Heap) (cs : List V) (x : TD.Ty bmTD) (h : Is H bmTD cs x) : Call P 107 [argV bmTD cs] H fun o _ => o = .ret (.bool true) := by
  obtain ⟨d, rfl, k⟩ := is_bm h
  exact bitmapTurns hp hg k
end Go.Ab
