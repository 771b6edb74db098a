/- The law BitmapFills. Conditions: none. -/
import Derived.Test.YtdkgdneiilnppaaCv
import Derived.Test.YtdkgdneiilnppaaPL2Fills
set_option linter.all false
namespace Go.Ab

theorem cnt2_false (w h : Nat) : cnt2 w (fun _ _ => false) h = 0 := by
  have h0 : ∀ n, cntF (fun _ => false) n = 0 := fun n => by
    induction n with
    | zero => rfl
    | succ n ih => rw [cntF, ih]; rfl
  unfold cnt2
  induction h with
  | zero => rfl
  | succ n ih => rw [sumN, ih, h0]
theorem cnt2_true (w h : Nat) : cnt2 w (fun _ _ => true) h = h * w := by
  have := cnt2_not w (fun _ _ => false) h
  rw [cnt2_false] at this
  exact this
theorem cntF_from (x : Nat) : ∀ n, cntF (fun i => decide (x ≤ i)) n = n - x
  | 0 => by simp [cntF]
  | n + 1 => by
    rw [cntF, cntF_from x n]
    by_cases c : x ≤ n
    · rw [decide_eq_true c]; show n - x + 1 = _; omega
    · rw [decide_eq_false c]; show n - x + 0 = _; omega
theorem cnt2_from (w x y : Nat) : ∀ h, cnt2 w (fun i j => decide (x ≤ i ∧ y ≤ j)) h = (h - y) * (w - x)
  | 0 => by simp [cnt2, sumN]
  | h + 1 => by
    have e1 : cnt2 w (fun i j => decide (x ≤ i ∧ y ≤ j)) (h + 1) = cnt2 w (fun i j => decide (x ≤ i ∧ y ≤ j)) h + cntF (fun i => decide (x ≤ i ∧ y ≤ h)) w := rfl
    rw [e1, cnt2_from w x y h]
    by_cases c : y ≤ h
    · rw [cntF_congr (g := fun i => decide (x ≤ i)) fun i _ => decide_eq_decide.2 ⟨fun e => e.1, fun e => ⟨e, c⟩⟩, cntF_from, show h + 1 - y = h - y + 1 by omega, Nat.add_mul, Nat.one_mul]
    · rw [cntF_congr (g := fun _ => false) fun i _ => decide_eq_false fun e => c e.2, show h + 1 - y = h - y by omega]
      have : ∀ n, cntF (fun _ => false) n = 0 := fun n => by
        induction n with
        | zero => rfl
        | succ n ih => rw [cntF, ih]; rfl
      rw [this]; rfl

set_option maxHeartbeats 2000000 in
theorem bitmapFills {P : Prog} (hq : HasL2 P) (hg : P 108 = some burinlaw2_BitmapFills) {H : Heap} {d s : BmO} {n1 n2 n3 n4 n5 n6 n7 n8 : Int} (kd : BmOk H d) (i1 : i64r n1) (i2 : i64r n2) :
    Call P 108 [.agg [.int .i64 d.w, .int .i64 d.h, d.v, .int .i64 s.w, .int .i64 s.h, s.v, .int .i64 n1, .int .i64 n2, .int .i64 n3, .int .i64 n4, .int .i64 n5, .int .i64 n6, .int .i64 n7, .int .i64 n8]] H fun o _ => o = .ret (.bool true) := by
  refine call_of hg rfl ?_
  have h1 := (Hs.start H).alloc (l := [.int .i64 d.w, .int .i64 d.h, d.v, .int .i64 s.w, .int .i64 s.h, s.v, .int .i64 n1, .int .i64 n2, .int .i64 n3, .int .i64 n4, .int .i64 n5, .int .i64 n6, .int .i64 n7, .int .i64 n8])
  have hc := h1.cel
  simp -implicitDefEqProofs -dsimp (disch := omega) only [go_sem, Nat.reduceEqDiff, ↓reduceIte, Nat.reduceAdd, Nat.reduceMul, Nat.reduceSub, Nat.reduceLT, Nat.reduceLeDiff, Int.reduceLT, Int.reduceLE, Int.reduceEq, Int.reduceNeg, Int.reduceAdd, Int.reduceMul, Int.reduceSub, Int.reduceToNat, reduceCtorEq, dec_t, dec_f, ]
  generalize H.new _ = H1 at *
  generalize H.next = p at *
  simp -implicitDefEqProofs -dsimp (disch := omega) only [go_sem, Nat.reduceEqDiff, ↓reduceIte, Nat.reduceAdd, Nat.reduceMul, Nat.reduceSub, Nat.reduceLT, Nat.reduceLeDiff, Int.reduceLT, Int.reduceLE, Int.reduceEq, Int.reduceNeg, Int.reduceAdd, Int.reduceMul, Int.reduceSub, Int.reduceToNat, reduceCtorEq, dec_t, dec_f, rd_m hc]
  refine mayO hq kd h1 (by simp) fun q H2 hq2 h2 => ?_
  have hc := h2.cel
  cases q with
  | false =>
    simp -implicitDefEqProofs -dsimp (disch := omega) only [go_sem, Nat.reduceEqDiff, ↓reduceIte, Nat.reduceAdd, Nat.reduceMul, Nat.reduceSub, Nat.reduceLT, Nat.reduceLeDiff, Int.reduceLT, Int.reduceLE, Int.reduceEq, Int.reduceNeg, Int.reduceAdd, Int.reduceMul, Int.reduceSub, Int.reduceToNat, reduceCtorEq, dec_t, dec_f, ]
    refine wakes_ct hq h2 fun H3 => ?_
    simp -implicitDefEqProofs -dsimp (disch := omega) only [go_sem, Nat.reduceEqDiff, ↓reduceIte, Nat.reduceAdd, Nat.reduceMul, Nat.reduceSub, Nat.reduceLT, Nat.reduceLeDiff, Int.reduceLT, Int.reduceLE, Int.reduceEq, Int.reduceNeg, Int.reduceAdd, Int.reduceMul, Int.reduceSub, Int.reduceToNat, reduceCtorEq, dec_t, dec_f, ]
  | true =>
  have hm := hq2.1 rfl
  have mm := bmM_of kd hm
  have h3 := h2.alloc (l := [.int .i64 d.w, .int .i64 d.h, d.v])
  simp -implicitDefEqProofs -dsimp (disch := omega) only [go_sem, Nat.reduceEqDiff, ↓reduceIte, Nat.reduceAdd, Nat.reduceMul, Nat.reduceSub, Nat.reduceLT, Nat.reduceLeDiff, Int.reduceLT, Int.reduceLE, Int.reduceEq, Int.reduceNeg, Int.reduceAdd, Int.reduceMul, Int.reduceSub, Int.reduceToNat, reduceCtorEq, dec_t, dec_f, rd_m hc]
  generalize H2.new _ = H3 at *
  generalize H2.next = bx at *
  refine smallO hq kd ⟨[], by rw [h3.cel]; rfl⟩ ?_
  have h4 := h3.tail
  have hc := h4.cel
  by_cases hsm : 64 * d.ws.length + 64 ≤ 60000
  · rw [decide_eq_true hsm]
    simp -implicitDefEqProofs -dsimp (disch := omega) only [go_sem, Nat.reduceEqDiff, ↓reduceIte, Nat.reduceAdd, Nat.reduceMul, Nat.reduceSub, Nat.reduceLT, Nat.reduceLeDiff, Int.reduceLT, Int.reduceLE, Int.reduceEq, Int.reduceNeg, Int.reduceAdd, Int.reduceMul, Int.reduceSub, Int.reduceToNat, reduceCtorEq, dec_t, dec_f, rd_m hc]
    have a1 := Nat.le_mul_of_pos_right d.wn (show 0 < d.hn by have := mm.h1; omega)
    have a2 := Nat.le_mul_of_pos_left d.hn (show 0 < d.wn by have := mm.w1; omega)
    have a3 := mm.area
    have b1 := mm.w1
    have b2 := mm.h1
    have ew := mm.w
    have eh := mm.h
    have em : d.w * d.h = ((d.hn * d.wn : Nat) : Int) := by rw [ew, eh, ← Int.natCast_mul, Nat.mul_comm]
    have em2 : d.hn * d.wn ≤ 1048576 := by rw [Nat.mul_comm]; exact a3
    have r0 : ∀ (ww hh bit : Int), 0 ≤ ww → 0 ≤ hh → (bit = 0 ∨ bit = 1) → fillR ww hh bit = 0 := fun ww hh bit x1 x2 x3 => by unfold fillR; rw [if_neg (by omega), if_pos x3]
    refine fromO hq kd hm h4 (by simp) fun m H4 h5 => ?_
    simp -implicitDefEqProofs -dsimp (disch := omega) only [go_sem, Nat.reduceEqDiff, ↓reduceIte, Nat.reduceAdd, Nat.reduceMul, Nat.reduceSub, Nat.reduceLT, Nat.reduceLeDiff, Int.reduceLT, Int.reduceLE, Int.reduceEq, Int.reduceNeg, Int.reduceAdd, Int.reduceMul, Int.reduceSub, Int.reduceToNat, reduceCtorEq, dec_t, dec_f, ]
    refine fill_ct hq.bm h5 (by decide) (by decide) (by decide) (by decide) fun H5 h6 => ?_
    rw [r0 _ _ _ (by omega) (by omega) (by omega)] at h6 ⊢
    have h6 := h6.mapc (q := fun _ _ => true) fun i j hi hj => by rw [if_pos rfl]; unfold fillP; rw [if_pos (by omega)]; rfl
    have hc := h6.p1.cel
    simp -implicitDefEqProofs -dsimp (disch := omega) only [go_sem, Nat.reduceEqDiff, ↓reduceIte, Nat.reduceAdd, Nat.reduceMul, Nat.reduceSub, Nat.reduceLT, Nat.reduceLeDiff, Int.reduceLT, Int.reduceLE, Int.reduceEq, Int.reduceNeg, Int.reduceAdd, Int.reduceMul, Int.reduceSub, Int.reduceToNat, reduceCtorEq, dec_t, dec_f, d_gre, rd_s hc, em, w64]
    refine count_ct hq.bm h6 ?_
    rw [cnt2_true]
    simp -implicitDefEqProofs -dsimp (disch := omega) only [go_sem, Nat.reduceEqDiff, ↓reduceIte, Nat.reduceAdd, Nat.reduceMul, Nat.reduceSub, Nat.reduceLT, Nat.reduceLeDiff, Int.reduceLT, Int.reduceLE, Int.reduceEq, Int.reduceNeg, Int.reduceAdd, Int.reduceMul, Int.reduceSub, Int.reduceToNat, reduceCtorEq, dec_t, dec_f, ]
    refine aft_intro (by simp [rechecks, recheck, fresh, Fr.get, look, step, opd, rd_s hc]) ?_
    simp -implicitDefEqProofs -dsimp (disch := omega) only [go_sem, Nat.reduceEqDiff, ↓reduceIte, Nat.reduceAdd, Nat.reduceMul, Nat.reduceSub, Nat.reduceLT, Nat.reduceLeDiff, Int.reduceLT, Int.reduceLE, Int.reduceEq, Int.reduceNeg, Int.reduceAdd, Int.reduceMul, Int.reduceSub, Int.reduceToNat, reduceCtorEq, dec_t, dec_f, w64]
    refine fill_ct hq.bm h6 (by decide) (by decide) (by decide) (by decide) fun H6 h7 => ?_
    rw [r0 _ _ _ (by omega) (by omega) (by omega)] at h7 ⊢
    have h7 := h7.mapc (q := fun _ _ => true) fun i j hi hj => by rw [if_pos rfl]; unfold fillP; rw [if_neg (by omega)]
    have hc := h7.p1.cel
    simp -implicitDefEqProofs -dsimp (disch := omega) only [go_sem, Nat.reduceEqDiff, ↓reduceIte, Nat.reduceAdd, Nat.reduceMul, Nat.reduceSub, Nat.reduceLT, Nat.reduceLeDiff, Int.reduceLT, Int.reduceLE, Int.reduceEq, Int.reduceNeg, Int.reduceAdd, Int.reduceMul, Int.reduceSub, Int.reduceToNat, reduceCtorEq, dec_t, dec_f, d_gre, rd_s hc, em, w64]
    refine count_ct hq.bm h7 ?_
    rw [cnt2_true]
    simp -implicitDefEqProofs -dsimp (disch := omega) only [go_sem, Nat.reduceEqDiff, ↓reduceIte, Nat.reduceAdd, Nat.reduceMul, Nat.reduceSub, Nat.reduceLT, Nat.reduceLeDiff, Int.reduceLT, Int.reduceLE, Int.reduceEq, Int.reduceNeg, Int.reduceAdd, Int.reduceMul, Int.reduceSub, Int.reduceToNat, reduceCtorEq, dec_t, dec_f, ]
    refine aft_intro (by simp [rechecks, recheck, fresh, Fr.get, look, step, opd, rd_s hc]) ?_
    simp -implicitDefEqProofs -dsimp (disch := omega) only [go_sem, Nat.reduceEqDiff, ↓reduceIte, Nat.reduceAdd, Nat.reduceMul, Nat.reduceSub, Nat.reduceLT, Nat.reduceLeDiff, Int.reduceLT, Int.reduceLE, Int.reduceEq, Int.reduceNeg, Int.reduceAdd, Int.reduceMul, Int.reduceSub, Int.reduceToNat, reduceCtorEq, dec_t, dec_f, w64]
    refine fill_ct hq.bm h7 (by decide) (by decide) (by decide) (by decide) fun H7 h8 => ?_
    rw [r0 _ _ _ (by omega) (by omega) (by omega)] at h8 ⊢
    have h8 := h8.mapc (q := fun _ _ => true) fun i j hi hj => by rw [if_pos rfl]; unfold fillP; rw [if_neg (by omega)]
    simp -implicitDefEqProofs -dsimp (disch := omega) only [go_sem, Nat.reduceEqDiff, ↓reduceIte, Nat.reduceAdd, Nat.reduceMul, Nat.reduceSub, Nat.reduceLT, Nat.reduceLeDiff, Int.reduceLT, Int.reduceLE, Int.reduceEq, Int.reduceNeg, Int.reduceAdd, Int.reduceMul, Int.reduceSub, Int.reduceToNat, reduceCtorEq, dec_t, dec_f, ]
    refine fill_ct hq.bm h8 (by decide) (by decide) (by decide) (by decide) fun H8 h9 => ?_
    rw [r0 _ _ _ (by omega) (by omega) (by omega)] at h9 ⊢
    have h9 := h9.mapc (q := fun _ _ => true) fun i j hi hj => by rw [if_pos rfl]; unfold fillP; rw [if_neg (by omega)]
    have hc := h9.p1.cel
    simp -implicitDefEqProofs -dsimp (disch := omega) only [go_sem, Nat.reduceEqDiff, ↓reduceIte, Nat.reduceAdd, Nat.reduceMul, Nat.reduceSub, Nat.reduceLT, Nat.reduceLeDiff, Int.reduceLT, Int.reduceLE, Int.reduceEq, Int.reduceNeg, Int.reduceAdd, Int.reduceMul, Int.reduceSub, Int.reduceToNat, reduceCtorEq, dec_t, dec_f, d_gre, rd_s hc, em, w64]
    refine count_ct hq.bm h9 ?_
    rw [cnt2_true]
    simp -implicitDefEqProofs -dsimp (disch := omega) only [go_sem, Nat.reduceEqDiff, ↓reduceIte, Nat.reduceAdd, Nat.reduceMul, Nat.reduceSub, Nat.reduceLT, Nat.reduceLeDiff, Int.reduceLT, Int.reduceLE, Int.reduceEq, Int.reduceNeg, Int.reduceAdd, Int.reduceMul, Int.reduceSub, Int.reduceToNat, reduceCtorEq, dec_t, dec_f, ]
    refine aft_intro (by simp [rechecks, recheck, fresh, Fr.get, look, step, opd, rd_s hc]) ?_
    simp -implicitDefEqProofs -dsimp (disch := omega) only [go_sem, Nat.reduceEqDiff, ↓reduceIte, Nat.reduceAdd, Nat.reduceMul, Nat.reduceSub, Nat.reduceLT, Nat.reduceLeDiff, Int.reduceLT, Int.reduceLE, Int.reduceEq, Int.reduceNeg, Int.reduceAdd, Int.reduceMul, Int.reduceSub, Int.reduceToNat, reduceCtorEq, dec_t, dec_f, w64]
    refine fill_ct hq.bm h9 (by decide) (by decide) (by decide) (by decide) fun H9 h10 => ?_
    rw [r0 _ _ _ (by omega) (by omega) (by omega)] at h10 ⊢
    have h10 := h10.mapc (q := fun _ _ => true) fun i j hi hj => by rw [if_pos rfl]; unfold fillP; rw [if_neg (by omega)]
    have hc := h10.p1.cel
    simp -implicitDefEqProofs -dsimp (disch := omega) only [go_sem, Nat.reduceEqDiff, ↓reduceIte, Nat.reduceAdd, Nat.reduceMul, Nat.reduceSub, Nat.reduceLT, Nat.reduceLeDiff, Int.reduceLT, Int.reduceLE, Int.reduceEq, Int.reduceNeg, Int.reduceAdd, Int.reduceMul, Int.reduceSub, Int.reduceToNat, reduceCtorEq, dec_t, dec_f, d_gre, rd_s hc, em, w64]
    refine count_ct hq.bm h10 ?_
    rw [cnt2_true]
    simp -implicitDefEqProofs -dsimp (disch := omega) only [go_sem, Nat.reduceEqDiff, ↓reduceIte, Nat.reduceAdd, Nat.reduceMul, Nat.reduceSub, Nat.reduceLT, Nat.reduceLeDiff, Int.reduceLT, Int.reduceLE, Int.reduceEq, Int.reduceNeg, Int.reduceAdd, Int.reduceMul, Int.reduceSub, Int.reduceToNat, reduceCtorEq, dec_t, dec_f, ]
    refine aft_intro (by simp [rechecks, recheck, fresh, Fr.get, look, step, opd, rd_s hc]) ?_
    simp -implicitDefEqProofs -dsimp (disch := omega) only [go_sem, Nat.reduceEqDiff, ↓reduceIte, Nat.reduceAdd, Nat.reduceMul, Nat.reduceSub, Nat.reduceLT, Nat.reduceLeDiff, Int.reduceLT, Int.reduceLE, Int.reduceEq, Int.reduceNeg, Int.reduceAdd, Int.reduceMul, Int.reduceSub, Int.reduceToNat, reduceCtorEq, dec_t, dec_f, w64]
    refine fill_ct hq.bm h10 (by decide) (by decide) (by decide) (by decide) fun H10 h11 => ?_
    rw [r0 _ _ _ (by omega) (by omega) (by omega)] at h11 ⊢
    have h11 := h11.mapc (q := fun _ _ => true) fun i j hi hj => by rw [if_pos rfl]; unfold fillP; rw [if_neg (by omega)]
    simp -implicitDefEqProofs -dsimp (disch := omega) only [go_sem, Nat.reduceEqDiff, ↓reduceIte, Nat.reduceAdd, Nat.reduceMul, Nat.reduceSub, Nat.reduceLT, Nat.reduceLeDiff, Int.reduceLT, Int.reduceLE, Int.reduceEq, Int.reduceNeg, Int.reduceAdd, Int.reduceMul, Int.reduceSub, Int.reduceToNat, reduceCtorEq, dec_t, dec_f, w64]
    refine blit_self hq.bm h11 (by decide) (by decide) (by decide) (by decide) (by decide) (by decide) (by decide) fun H11 h12 => ?_
    rw [show blitR 9223372036854775807 9223372036854775807 2 = 0 by decide] at h12 ⊢
    have h12 := h12.mapc (q := fun _ _ => true) fun i j hi hj => by rw [if_pos rfl]; unfold blitP; rw [if_neg (by omega)]
    have hc := h12.p1.cel
    simp -implicitDefEqProofs -dsimp (disch := omega) only [go_sem, Nat.reduceEqDiff, ↓reduceIte, Nat.reduceAdd, Nat.reduceMul, Nat.reduceSub, Nat.reduceLT, Nat.reduceLeDiff, Int.reduceLT, Int.reduceLE, Int.reduceEq, Int.reduceNeg, Int.reduceAdd, Int.reduceMul, Int.reduceSub, Int.reduceToNat, reduceCtorEq, dec_t, dec_f, d_gre, rd_s hc, em, w64]
    refine count_ct hq.bm h12 ?_
    rw [cnt2_true]
    simp -implicitDefEqProofs -dsimp (disch := omega) only [go_sem, Nat.reduceEqDiff, ↓reduceIte, Nat.reduceAdd, Nat.reduceMul, Nat.reduceSub, Nat.reduceLT, Nat.reduceLeDiff, Int.reduceLT, Int.reduceLE, Int.reduceEq, Int.reduceNeg, Int.reduceAdd, Int.reduceMul, Int.reduceSub, Int.reduceToNat, reduceCtorEq, dec_t, dec_f, ]
    refine aft_intro (by simp [rechecks, recheck, fresh, Fr.get, look, step, opd, rd_s hc]) ?_
    simp -implicitDefEqProofs -dsimp (disch := omega) only [go_sem, Nat.reduceEqDiff, ↓reduceIte, Nat.reduceAdd, Nat.reduceMul, Nat.reduceSub, Nat.reduceLT, Nat.reduceLeDiff, Int.reduceLT, Int.reduceLE, Int.reduceEq, Int.reduceNeg, Int.reduceAdd, Int.reduceMul, Int.reduceSub, Int.reduceToNat, reduceCtorEq, dec_t, dec_f, w64]
    have hc := h12.p1.cel
    simp -implicitDefEqProofs -dsimp (disch := omega) only [go_sem, Nat.reduceEqDiff, ↓reduceIte, Nat.reduceAdd, Nat.reduceMul, Nat.reduceSub, Nat.reduceLT, Nat.reduceLeDiff, Int.reduceLT, Int.reduceLE, Int.reduceEq, Int.reduceNeg, Int.reduceAdd, Int.reduceMul, Int.reduceSub, Int.reduceToNat, reduceCtorEq, dec_t, dec_f, rd_s hc, ew]
    refine within_ct hq.within (n := d.wn) i1 (by omega) (by omega) ?_
    have hx : (n1 % (d.wn : Nat)).toNat < d.wn := by
      have := Int.emod_lt_of_pos n1 (show 0 < (d.wn : Int) by omega); omega
    generalize (n1 % (d.wn : Nat)).toNat = x at hx ⊢
    simp -implicitDefEqProofs -dsimp (disch := omega) only [go_sem, Nat.reduceEqDiff, ↓reduceIte, Nat.reduceAdd, Nat.reduceMul, Nat.reduceSub, Nat.reduceLT, Nat.reduceLeDiff, Int.reduceLT, Int.reduceLE, Int.reduceEq, Int.reduceNeg, Int.reduceAdd, Int.reduceMul, Int.reduceSub, Int.reduceToNat, reduceCtorEq, dec_t, dec_f, rd_s hc, eh]
    refine within_ct hq.within (n := d.hn) i2 (by omega) (by omega) ?_
    have hy : (n2 % (d.hn : Nat)).toNat < d.hn := by
      have := Int.emod_lt_of_pos n2 (show 0 < (d.hn : Int) by omega); omega
    generalize (n2 % (d.hn : Nat)).toNat = y at hy ⊢
    simp -implicitDefEqProofs -dsimp (disch := omega) only [go_sem, Nat.reduceEqDiff, ↓reduceIte, Nat.reduceAdd, Nat.reduceMul, Nat.reduceSub, Nat.reduceLT, Nat.reduceLeDiff, Int.reduceLT, Int.reduceLE, Int.reduceEq, Int.reduceNeg, Int.reduceAdd, Int.reduceMul, Int.reduceSub, Int.reduceToNat, reduceCtorEq, dec_t, dec_f, ]
    refine fill_ct hq.bm h12 (by unfold i64r; omega) (by unfold i64r; omega) (by decide) (by decide) fun H12 h13 => ?_
    rw [r0 _ _ _ (by omega) (by omega) (by omega)] at h13 ⊢
    have h13 := h13.mapc (q := fun i j => !decide (x ≤ i ∧ y ≤ j)) fun i j hi hj => by
      rw [if_pos rfl]; unfold fillP
      by_cases c : x ≤ i ∧ y ≤ j
      · rw [if_pos (by omega), decide_eq_true c]; rfl
      · rw [if_neg (by omega), decide_eq_false c]; rfl
    have hc := h13.p1.cel
    have e5 : d.w - (x : Int) = ((d.wn - x : Nat) : Int) := by omega
    have e6 : d.h - (y : Int) = ((d.hn - y : Nat) : Int) := by omega
    have e7 : ((d.wn - x : Nat) : Int) * ((d.hn - y : Nat) : Int) = (((d.hn - y) * (d.wn - x) : Nat) : Int) := by rw [← Int.natCast_mul, Nat.mul_comm]
    have e8 : (d.hn - y) * (d.wn - x) ≤ d.hn * d.wn := Nat.mul_le_mul (by omega) (by omega)
    simp -implicitDefEqProofs -dsimp (disch := omega) only [go_sem, Nat.reduceEqDiff, ↓reduceIte, Nat.reduceAdd, Nat.reduceMul, Nat.reduceSub, Nat.reduceLT, Nat.reduceLeDiff, Int.reduceLT, Int.reduceLE, Int.reduceEq, Int.reduceNeg, Int.reduceAdd, Int.reduceMul, Int.reduceSub, Int.reduceToNat, reduceCtorEq, dec_t, dec_f, d_gre, rd_s hc, em, w64, e5, e6, e7]
    refine count_ct hq.bm h13 ?_
    have e9 := cnt2_not d.wn (fun i j => decide (x ≤ i ∧ y ≤ j)) d.hn
    rw [cnt2_from] at e9
    rw [show cnt2 d.wn (fun i j => !decide (x ≤ i ∧ y ≤ j)) d.hn = d.hn * d.wn - (d.hn - y) * (d.wn - x) by omega]
    simp -implicitDefEqProofs -dsimp (disch := omega) only [go_sem, Nat.reduceEqDiff, ↓reduceIte, Nat.reduceAdd, Nat.reduceMul, Nat.reduceSub, Nat.reduceLT, Nat.reduceLeDiff, Int.reduceLT, Int.reduceLE, Int.reduceEq, Int.reduceNeg, Int.reduceAdd, Int.reduceMul, Int.reduceSub, Int.reduceToNat, reduceCtorEq, dec_t, dec_f, ]
    refine aft_intro (by simp [rechecks, recheck, fresh, Fr.get, look, step, opd, rd_s hc]) ?_
    simp -implicitDefEqProofs -dsimp (disch := omega) only [go_sem, Nat.reduceEqDiff, ↓reduceIte, Nat.reduceAdd, Nat.reduceMul, Nat.reduceSub, Nat.reduceLT, Nat.reduceLeDiff, Int.reduceLT, Int.reduceLE, Int.reduceEq, Int.reduceNeg, Int.reduceAdd, Int.reduceMul, Int.reduceSub, Int.reduceToNat, reduceCtorEq, dec_t, dec_f, w64]
    refine crop_ct hq.bm h13 (by decide) (by decide) (by decide) (by decide) (fun k => absurd (show sizeOk 3 2 by decide) k) fun _ c H13 h14 => ?_
    have h14 := h14.mapc (q := fun _ _ => false) fun i j hi hj => by rw [decide_eq_false (by omega)]; rfl
    simp -implicitDefEqProofs -dsimp (disch := omega) only [go_sem, Nat.reduceEqDiff, ↓reduceIte, Nat.reduceAdd, Nat.reduceMul, Nat.reduceSub, Nat.reduceLT, Nat.reduceLeDiff, Int.reduceLT, Int.reduceLE, Int.reduceEq, Int.reduceNeg, Int.reduceAdd, Int.reduceMul, Int.reduceSub, Int.reduceToNat, reduceCtorEq, dec_t, dec_f, ]
    refine count_ct hq.bm h14 ?_
    rw [cnt2_false]
    simp -implicitDefEqProofs -dsimp (disch := omega) only [go_sem, Nat.reduceEqDiff, ↓reduceIte, Nat.reduceAdd, Nat.reduceMul, Nat.reduceSub, Nat.reduceLT, Nat.reduceLeDiff, Int.reduceLT, Int.reduceLE, Int.reduceEq, Int.reduceNeg, Int.reduceAdd, Int.reduceMul, Int.reduceSub, Int.reduceToNat, reduceCtorEq, dec_t, dec_f, ]
    refine fill_ct hq.bm h14.tail (by decide) (by decide) (by decide) (by decide) fun H14 h15 => ?_
    rw [show fillR (-1) 1 1 = 24 by decide] at h15 ⊢
    simp -implicitDefEqProofs -dsimp (disch := omega) only [go_sem, Nat.reduceEqDiff, ↓reduceIte, Nat.reduceAdd, Nat.reduceMul, Nat.reduceSub, Nat.reduceLT, Nat.reduceLeDiff, Int.reduceLT, Int.reduceLE, Int.reduceEq, Int.reduceNeg, Int.reduceAdd, Int.reduceMul, Int.reduceSub, Int.reduceToNat, reduceCtorEq, dec_t, dec_f, ]
    refine fill_ct hq.bm h15 (by decide) (by decide) (by decide) (by decide) fun H15 h16 => ?_
    rw [show fillR 1 1 2 = 23 by decide] at h16 ⊢
    simp -implicitDefEqProofs -dsimp (disch := omega) only [go_sem, Nat.reduceEqDiff, ↓reduceIte, Nat.reduceAdd, Nat.reduceMul, Nat.reduceSub, Nat.reduceLT, Nat.reduceLeDiff, Int.reduceLT, Int.reduceLE, Int.reduceEq, Int.reduceNeg, Int.reduceAdd, Int.reduceMul, Int.reduceSub, Int.reduceToNat, reduceCtorEq, dec_t, dec_f, ]
    refine blit_nil hq.bm ?_
    simp -implicitDefEqProofs -dsimp (disch := omega) only [go_sem, Nat.reduceEqDiff, ↓reduceIte, Nat.reduceAdd, Nat.reduceMul, Nat.reduceSub, Nat.reduceLT, Nat.reduceLeDiff, Int.reduceLT, Int.reduceLE, Int.reduceEq, Int.reduceNeg, Int.reduceAdd, Int.reduceMul, Int.reduceSub, Int.reduceToNat, reduceCtorEq, dec_t, dec_f, ]
    refine blit_self hq.bm h16 (by decide) (by decide) (by decide) (by decide) (by decide) (by decide) (by decide) fun H16 h17 => ?_
    rw [show blitR 1 1 5 = 25 by decide] at h17 ⊢
    simp -implicitDefEqProofs -dsimp (disch := omega) only [go_sem, Nat.reduceEqDiff, ↓reduceIte, Nat.reduceAdd, Nat.reduceMul, Nat.reduceSub, Nat.reduceLT, Nat.reduceLeDiff, Int.reduceLT, Int.reduceLE, Int.reduceEq, Int.reduceNeg, Int.reduceAdd, Int.reduceMul, Int.reduceSub, Int.reduceToNat, reduceCtorEq, dec_t, dec_f, ]
    refine wakes_ct hq h17 fun H17 => ?_
    simp -implicitDefEqProofs -dsimp (disch := omega) only [go_sem, Nat.reduceEqDiff, ↓reduceIte, Nat.reduceAdd, Nat.reduceMul, Nat.reduceSub, Nat.reduceLT, Nat.reduceLeDiff, Int.reduceLT, Int.reduceLE, Int.reduceEq, Int.reduceNeg, Int.reduceAdd, Int.reduceMul, Int.reduceSub, Int.reduceToNat, reduceCtorEq, dec_t, dec_f, ]
  · rw [decide_eq_false hsm]
    simp -implicitDefEqProofs -dsimp (disch := omega) only [go_sem, Nat.reduceEqDiff, ↓reduceIte, Nat.reduceAdd, Nat.reduceMul, Nat.reduceSub, Nat.reduceLT, Nat.reduceLeDiff, Int.reduceLT, Int.reduceLE, Int.reduceEq, Int.reduceNeg, Int.reduceAdd, Int.reduceMul, Int.reduceSub, Int.reduceToNat, reduceCtorEq, dec_t, dec_f, ]
    refine wakes_ct hq h4 fun H3 => ?_
    simp -implicitDefEqProofs -dsimp (disch := omega) only [go_sem, Nat.reduceEqDiff, ↓reduceIte, Nat.reduceAdd, Nat.reduceMul, Nat.reduceSub, Nat.reduceLT, Nat.reduceLeDiff, Int.reduceLT, Int.reduceLE, Int.reduceEq, Int.reduceNeg, Int.reduceAdd, Int.reduceMul, Int.reduceSub, Int.reduceToNat, reduceCtorEq, dec_t, dec_f, ]
theorem law_BitmapFills {P : Prog} (hp : HasL2 P) (hg : P 108 = some burinlaw2_BitmapFills) (H : Heap) (cs : List V) (x : TD.Ty blitTD) (h : Is H blitTD cs x) : Call P 108 [argV blitTD cs] H fun o _ => o = .ret (.bool true) := by
  obtain ⟨d, s, n1, n2, n3, n4, n5, n6, n7, n8, rfl, k1, k2, i1, i2, i3, i4, i5, i6, i7, i8⟩ := is_blit h
  exact bitmapFills hp hg k1 i1 i2
end Go.Ab
