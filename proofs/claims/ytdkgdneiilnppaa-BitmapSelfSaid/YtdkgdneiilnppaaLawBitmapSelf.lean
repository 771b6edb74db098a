/- The law BitmapSelf. Conditions: none. -/
import Derived.Test.YtdkgdneiilnppaaCu
import Derived.Test.YtdkgdneiilnppaaPL2Self
set_option linter.all false
namespace Go.Ab

theorem bitmapSelf {P : Prog} (hq : HasL2 P) (hg : P 106 = some burinlaw2_BitmapSelf) {H : Heap} {d s : BmO} {n1 n2 n3 n4 n5 n6 n7 n8 : Int} (kd : BmOk H d)
    (i1 : i64r n1) (i2 : i64r n2) (i3 : i64r n3) (i4 : i64r n4) (i5 : i64r n5) (i6 : i64r n6) (i7 : i64r n7) :
    Call P 106 [.agg [.int .i64 d.w, .int .i64 d.h, d.v, .int .i64 s.w, .int .i64 s.h, s.v, .int .i64 n1, .int .i64 n2, .int .i64 n3, .int .i64 n4, .int .i64 n5, .int .i64 n6, .int .i64 n7, .int .i64 n8]] H fun o _ => o = .ret (.bool true) := by
  refine call_of hg rfl ?_
  have h1 := (Hs.start H).alloc (l := [.int .i64 d.w, .int .i64 d.h, d.v, .int .i64 s.w, .int .i64 s.h, s.v, .int .i64 n1, .int .i64 n2, .int .i64 n3, .int .i64 n4, .int .i64 n5, .int .i64 n6, .int .i64 n7, .int .i64 n8])
  have hc := h1.cel
  simp -implicitDefEqProofs -dsimp (disch := omega) only [go_sem, Nat.reduceEqDiff, ↓reduceIte, Nat.reduceAdd, Nat.reduceMul, Nat.reduceSub, Nat.reduceLT, Nat.reduceLeDiff, Int.reduceLT, Int.reduceLE, Int.reduceEq, Int.reduceNeg, Int.reduceAdd, Int.reduceMul, Int.reduceSub, Int.reduceToNat, reduceCtorEq, dec_t, dec_f, ]
  generalize H.new _ = H1 at *
  generalize H.next = p at *
  simp -implicitDefEqProofs -dsimp (disch := omega) only [go_sem, Nat.reduceEqDiff, ↓reduceIte, Nat.reduceAdd, Nat.reduceMul, Nat.reduceSub, Nat.reduceLT, Nat.reduceLeDiff, Int.reduceLT, Int.reduceLE, Int.reduceEq, Int.reduceNeg, Int.reduceAdd, Int.reduceMul, Int.reduceSub, Int.reduceToNat, reduceCtorEq, dec_t, dec_f, rd_m hc]
  refine mayO hq kd h1 (by simp) fun q H2 hq2 h2 => ?_
  have hc := h2.cel
  cases q with
  | false =>
    simp -implicitDefEqProofs -dsimp (disch := omega) only [go_sem, Nat.reduceEqDiff, ↓reduceIte, Nat.reduceAdd, Nat.reduceMul, Nat.reduceSub, Nat.reduceLT, Nat.reduceLeDiff, Int.reduceLT, Int.reduceLE, Int.reduceEq, Int.reduceNeg, Int.reduceAdd, Int.reduceMul, Int.reduceSub, Int.reduceToNat, reduceCtorEq, dec_t, dec_f, ]
    refine wakes_ct hq h2 fun H3 => ?_
    simp -implicitDefEqProofs -dsimp (disch := omega) only [go_sem, Nat.reduceEqDiff, ↓reduceIte, Nat.reduceAdd, Nat.reduceMul, Nat.reduceSub, Nat.reduceLT, Nat.reduceLeDiff, Int.reduceLT, Int.reduceLE, Int.reduceEq, Int.reduceNeg, Int.reduceAdd, Int.reduceMul, Int.reduceSub, Int.reduceToNat, reduceCtorEq, dec_t, dec_f, ]
  | true =>
    have hm := hq2.1 rfl
    have mm := bmM_of kd hm
    have h3 := h2.alloc (l := [.int .i64 d.w, .int .i64 d.h, d.v])
    simp -implicitDefEqProofs -dsimp (disch := omega) only [go_sem, Nat.reduceEqDiff, ↓reduceIte, Nat.reduceAdd, Nat.reduceMul, Nat.reduceSub, Nat.reduceLT, Nat.reduceLeDiff, Int.reduceLT, Int.reduceLE, Int.reduceEq, Int.reduceNeg, Int.reduceAdd, Int.reduceMul, Int.reduceSub, Int.reduceToNat, reduceCtorEq, dec_t, dec_f, rd_m hc]
    generalize H2.new _ = H3 at *
    generalize H2.next = bx at *
    refine smallO hq kd ⟨[], by rw [h3.cel]; rfl⟩ ?_
    have h4 := h3.tail
    have hc := h4.cel
    by_cases hsm : 64 * d.ws.length + 64 ≤ 60000
    · rw [decide_eq_true hsm]
      simp -implicitDefEqProofs -dsimp (disch := omega) only [go_sem, Nat.reduceEqDiff, ↓reduceIte, Nat.reduceAdd, Nat.reduceMul, Nat.reduceSub, Nat.reduceLT, Nat.reduceLeDiff, Int.reduceLT, Int.reduceLE, Int.reduceEq, Int.reduceNeg, Int.reduceAdd, Int.reduceMul, Int.reduceSub, Int.reduceToNat, reduceCtorEq, dec_t, dec_f, rd_m hc]
      refine fromO hq kd hm h4 (by simp) fun a H4 h5 => ?_
      have hc := h5.p1.cel
      simp -implicitDefEqProofs -dsimp (disch := omega) only [go_sem, Nat.reduceEqDiff, ↓reduceIte, Nat.reduceAdd, Nat.reduceMul, Nat.reduceSub, Nat.reduceLT, Nat.reduceLeDiff, Int.reduceLT, Int.reduceLE, Int.reduceEq, Int.reduceNeg, Int.reduceAdd, Int.reduceMul, Int.reduceSub, Int.reduceToNat, reduceCtorEq, dec_t, dec_f, rd_m hc]
      refine fromO hq kd hm h5 (by simp) fun b H5 h6 => ?_
      have hc := h6.p2.cel
      simp -implicitDefEqProofs -dsimp (disch := omega) only [go_sem, Nat.reduceEqDiff, ↓reduceIte, Nat.reduceAdd, Nat.reduceMul, Nat.reduceSub, Nat.reduceLT, Nat.reduceLeDiff, Int.reduceLT, Int.reduceLE, Int.reduceEq, Int.reduceNeg, Int.reduceAdd, Int.reduceMul, Int.reduceSub, Int.reduceToNat, reduceCtorEq, dec_t, dec_f, rd_m hc]
      refine fromO hq kd hm h6 (by simp) fun c H6 h7 => ?_
      have hc := h7.p3.cel
      have h8 := h7.alloc (l := [.int .i64 n1, .int .i64 n2, .int .i64 n3, .int .i64 n4, .int .i64 n5, .int .i64 n6, .int .i64 n7, .int .i64 n8])
      simp -implicitDefEqProofs -dsimp (disch := omega) only [go_sem, Nat.reduceEqDiff, ↓reduceIte, Nat.reduceAdd, Nat.reduceMul, Nat.reduceSub, Nat.reduceLT, Nat.reduceLeDiff, Int.reduceLT, Int.reduceLE, Int.reduceEq, Int.reduceNeg, Int.reduceAdd, Int.reduceMul, Int.reduceSub, Int.reduceToNat, reduceCtorEq, dec_t, dec_f, rd_m hc]
      generalize H6.new _ = H7 at *
      generalize H6.next = nb at *
      refine blit_self hq.bm h8.p3 i1 i2 i3 i4 i5 i6 i7 fun H8 h9 => ?_
      have hc := h9.p1.cel
      simp -implicitDefEqProofs -dsimp (disch := omega) only [go_sem, Nat.reduceEqDiff, ↓reduceIte, Nat.reduceAdd, Nat.reduceMul, Nat.reduceSub, Nat.reduceLT, Nat.reduceLeDiff, Int.reduceLT, Int.reduceLE, Int.reduceEq, Int.reduceNeg, Int.reduceAdd, Int.reduceMul, Int.reduceSub, Int.reduceToNat, reduceCtorEq, dec_t, dec_f, ]
      refine aft_intro (by simp [rechecks, recheck, fresh, Fr.get, look, step, opd, rd_s hc]) ?_
      simp -implicitDefEqProofs -dsimp (disch := omega) only [go_sem, Nat.reduceEqDiff, ↓reduceIte, Nat.reduceAdd, Nat.reduceMul, Nat.reduceSub, Nat.reduceLT, Nat.reduceLeDiff, Int.reduceLT, Int.reduceLE, Int.reduceEq, Int.reduceNeg, Int.reduceAdd, Int.reduceMul, Int.reduceSub, Int.reduceToNat, reduceCtorEq, dec_t, dec_f, ]
      have h10 := h9.sel [3, 2, 0, 1, 4, 5] (by decide)
      refine blit_ct hq.bm h10 i1 i2 i3 i4 i5 i6 i7 fun H9 h11 => ?_
      generalize (if blitR n3 n4 n7 = 0 then blitP d.px d.px d.wn d.hn n1 n2 n3 n4 n5 n6 n7.toNat else d.px) = pq at *
      simp -implicitDefEqProofs -dsimp (disch := omega) only [go_sem, Nat.reduceEqDiff, ↓reduceIte, Nat.reduceAdd, Nat.reduceMul, Nat.reduceSub, Nat.reduceLT, Nat.reduceLeDiff, Int.reduceLT, Int.reduceLE, Int.reduceEq, Int.reduceNeg, Int.reduceAdd, Int.reduceMul, Int.reduceSub, Int.reduceToNat, reduceCtorEq, dec_t, dec_f, ]
      have h12 := h11.sel [2, 0, 1, 3, 4, 5] (by decide)
      refine plain_ct hq.bm h12 fun v1 H10 h13 _ => ?_
      simp -implicitDefEqProofs -dsimp (disch := omega) only [go_sem, Nat.reduceEqDiff, ↓reduceIte, Nat.reduceAdd, Nat.reduceMul, Nat.reduceSub, Nat.reduceLT, Nat.reduceLeDiff, Int.reduceLT, Int.reduceLE, Int.reduceEq, Int.reduceNeg, Int.reduceAdd, Int.reduceMul, Int.reduceSub, Int.reduceToNat, reduceCtorEq, dec_t, dec_f, ]
      have h14 := h13.sel [2, 0, 1, 3, 4, 5, 6] (by decide)
      refine plain_ct hq.bm h14 fun v2 H11 h15 _ => ?_
      have kw := wds_le mm.area mm.w1
      simp -implicitDefEqProofs -dsimp (disch := omega) only [go_sem, Nat.reduceEqDiff, ↓reduceIte, Nat.reduceAdd, Nat.reduceMul, Nat.reduceSub, Nat.reduceLT, Nat.reduceLeDiff, Int.reduceLT, Int.reduceLE, Int.reduceEq, Int.reduceNeg, Int.reduceAdd, Int.reduceMul, Int.reduceSub, Int.reduceToNat, reduceCtorEq, dec_t, dec_f, ]
      refine eqb_ct hq.rz h15 (h15.p2.own.arr) (h15.own.arr) (by rw [Wds_length]; omega) fun H12 h16 _ => ?_
      have hc := (h16.sel [6, 0] (by decide)).cel
      rw [show decide ((d.wn : Int) = d.wn ∧ (d.hn : Int) = d.hn ∧ Wds d.wn d.hn pq = Wds d.wn d.hn pq) = true from decide_eq_true ⟨rfl, rfl, rfl⟩]
      simp -implicitDefEqProofs -dsimp (disch := omega) only [go_sem, Nat.reduceEqDiff, ↓reduceIte, Nat.reduceAdd, Nat.reduceMul, Nat.reduceSub, Nat.reduceLT, Nat.reduceLeDiff, Int.reduceLT, Int.reduceLE, Int.reduceEq, Int.reduceNeg, Int.reduceAdd, Int.reduceMul, Int.reduceSub, Int.reduceToNat, reduceCtorEq, dec_t, dec_f, rd_m hc]
      refine sameO hq kd mm (h16.sel [4, 7] (by decide)) (by simp [picks]) fun H13 h17 => ?_
      rw [decide_eq_true (fun _ _ _ _ => rfl)]
      simp -implicitDefEqProofs -dsimp (disch := omega) only [go_sem, Nat.reduceEqDiff, ↓reduceIte, Nat.reduceAdd, Nat.reduceMul, Nat.reduceSub, Nat.reduceLT, Nat.reduceLeDiff, Int.reduceLT, Int.reduceLE, Int.reduceEq, Int.reduceNeg, Int.reduceAdd, Int.reduceMul, Int.reduceSub, Int.reduceToNat, reduceCtorEq, dec_t, dec_f, ]
      refine wakes_ct hq h17 fun H14 => ?_
      simp -implicitDefEqProofs -dsimp (disch := omega) only [go_sem, Nat.reduceEqDiff, ↓reduceIte, Nat.reduceAdd, Nat.reduceMul, Nat.reduceSub, Nat.reduceLT, Nat.reduceLeDiff, Int.reduceLT, Int.reduceLE, Int.reduceEq, Int.reduceNeg, Int.reduceAdd, Int.reduceMul, Int.reduceSub, Int.reduceToNat, reduceCtorEq, dec_t, dec_f, ]
    · rw [decide_eq_false hsm]
      simp -implicitDefEqProofs -dsimp (disch := omega) only [go_sem, Nat.reduceEqDiff, ↓reduceIte, Nat.reduceAdd, Nat.reduceMul, Nat.reduceSub, Nat.reduceLT, Nat.reduceLeDiff, Int.reduceLT, Int.reduceLE, Int.reduceEq, Int.reduceNeg, Int.reduceAdd, Int.reduceMul, Int.reduceSub, Int.reduceToNat, reduceCtorEq, dec_t, dec_f, ]
      refine wakes_ct hq h4 fun H3 => ?_
      simp -implicitDefEqProofs -dsimp (disch := omega) only [go_sem, Nat.reduceEqDiff, ↓reduceIte, Nat.reduceAdd, Nat.reduceMul, Nat.reduceSub, Nat.reduceLT, Nat.reduceLeDiff, Int.reduceLT, Int.reduceLE, Int.reduceEq, Int.reduceNeg, Int.reduceAdd, Int.reduceMul, Int.reduceSub, Int.reduceToNat, reduceCtorEq, dec_t, dec_f, ]
theorem law_BitmapSelf {P : Prog} (hp : HasL2 P) (hg : P 106 = some burinlaw2_BitmapSelf) (H : Heap) (cs : List V) (x : TD.Ty blitTD) (h : Is H blitTD cs x) : Call P 106 [argV blitTD cs] H fun o _ => o = .ret (.bool true) := by
  obtain ⟨d, s, n1, n2, n3, n4, n5, n6, n7, n8, rfl, k1, k2, i1, i2, i3, i4, i5, i6, i7, i8⟩ := is_blit h
  exact bitmapSelf hp hg k1 i1 i2 i3 i4 i5 i6 i7
end Go.Ab
