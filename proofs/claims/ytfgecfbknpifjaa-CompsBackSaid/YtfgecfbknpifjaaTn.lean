/- The reference's Lay (with or). Conditions: none. -/
import Derived.Test.YtfgecfbknpifjaaTm
set_option linter.all false
namespace Go.Ab
/-- Rows below j are laid, of row j the pixels below i. -/
def layQ (p q : Nat → Nat → Bool) (w h : Nat) (x y : Int) (j i : Nat) : Nat → Nat → Bool := fun a b =>
  if (x ≤ a ∧ (a : Int) < x + w ∧ y ≤ b ∧ (b : Int) < y + h) ∧ ((b : Int) - y < j ∨ ((b : Int) - y = j ∧ (a : Int) - x < i)) then p a b || q ((a : Int) - x).toNat ((b : Int) - y).toNat else p a b
theorem layQ_next {p q : Nat → Nat → Bool} {w h : Nat} {x y : Int} {j i : Nat} {a b : Nat} (hi : i < w) (hj : j < h) :
    layQ p q w h x y j (i + 1) a b = if (a : Int) = x + i ∧ (b : Int) = y + j then (p a b || q i j) else layQ p q w h x y j i a b := by
  unfold layQ
  by_cases c : (a : Int) = x + i ∧ (b : Int) = y + j
  · rw [if_pos c, if_pos (by omega), show ((a : Int) - x).toNat = i by omega, show ((b : Int) - y).toNat = j by omega]
  · rw [if_neg c]
    by_cases d : (x ≤ a ∧ (a : Int) < x + w ∧ y ≤ b ∧ (b : Int) < y + h) ∧ ((b : Int) - y < j ∨ ((b : Int) - y = j ∧ (a : Int) - x < i))
    · rw [if_pos d, if_pos (by omega)]
    · rw [if_neg d, if_neg (by omega)]
theorem layQ_row {p q : Nat → Nat → Bool} {w h : Nat} {x y : Int} {j : Nat} {a b : Nat} : layQ p q w h x y j w a b = layQ p q w h x y (j + 1) 0 a b := by
  unfold layQ
  by_cases d : (x ≤ a ∧ (a : Int) < x + w ∧ y ≤ b ∧ (b : Int) < y + h) ∧ ((b : Int) - y < j ∨ ((b : Int) - y = j ∧ (a : Int) - x < w))
  · rw [if_pos d, if_pos (by omega)]
  · rw [if_neg d, if_neg (by omega)]
theorem layQ_all {p q : Nat → Nat → Bool} {w h : Nat} {x y : Int} {a b : Nat} : layQ p q w h x y h 0 a b = blitP p q w h 0 0 w h x y 0 a b := by
  unfold layQ blitP opB
  by_cases d : x ≤ a ∧ (a : Int) < x + w ∧ y ≤ b ∧ (b : Int) < y + h
  · rw [if_pos (by omega), if_pos (by omega), if_pos rfl, Int.zero_add, Int.zero_add]
  · rw [if_neg (by omega), if_neg (by omega)]
section
variable {P : Prog} {H : Heap} {R : List As} {Q : Out → Heap → Prop}
set_option maxHeartbeats 2000000 in
theorem lay_ct (hz : HasRz P) (hp : HasRfc P) {v sv : V} {W Ht w h : Nat} {p : Nat → Nat → Bool} {ws : List Nat} {x y : Int} (hs : Hs H (BmA v W Ht p :: R)) (hv : ∀ H', Hs H' R → Arr H' sv 1 ws.length (u64s ws)) (hlt : ∀ n ∈ ws, n < 18446744073709551616)
    (hm : mayB w h ws) (hx : i64r x) (hy : i64r y)
    (hQ : ∀ H', Hs H' (BmA v W Ht (blitP p (pixOf w ws) w h 0 0 w h x y 0) :: R) → Q (.ret (.tup [])) H') : Call P 193 [.agg [.int .i64 W, .int .i64 Ht, v], .int .i64 x, .int .i64 y, .int .i64 0, .agg [.int .i64 w, .int .i64 h, sv]] H Q := by
  obtain ⟨⟨z1, z2, z3⟩, z4, z5⟩ := hm
  have hle := sizeOk_le ⟨z1, z2, z3⟩
  obtain ⟨y1, y2, y3, y4, y5⟩ := bmSz hs
  rw [Int.toNat_natCast, Int.toNat_natCast] at z4
  refine call_of hp.h_burinref0_Lay rfl ?_
  have g1 := (hs.alloc (l := [.int .i64 W, .int .i64 Ht, v])).alloc (l := [.int .i64 w, .int .i64 h, sv])
  rw [next_new] at g1
  have c5 := rd_s g1.p1.cel
  have c9 := rd_s g1.cel
  unfold i64r at hx hy
  obtain ⟨va, vc, ve, hvs⟩ := (bmV hs).elim fun b k => (show ∃ a c e, v = .sl a (Wds W Ht p).length c e from (hs.bml).own.arr.shape)
  obtain ⟨sa, sc, se, hss⟩ := (hv H hs.tail).shape
  subst hvs hss
  simp -implicitDefEqProofs -dsimp (disch := omega) only [go_sem, Nat.reduceEqDiff, ↓reduceIte, Nat.reduceAdd, Nat.reduceMul, Nat.reduceSub, Nat.reduceLT, Nat.reduceLeDiff, Int.reduceLT, Int.reduceLE, Int.reduceEq, Int.reduceNeg, Int.reduceAdd, Int.reduceMul, Int.reduceSub, Int.reduceToNat, reduceCtorEq, dec_t, dec_f, ]
  generalize (H.new _).new _ = H1 at *
  generalize H.next = b at *
  have none_ : ¬ (x < W ∧ y < Ht ∧ -(w : Int) < x ∧ -(h : Int) < y) → Q (.ret (.tup [])) H1 := fun k => by
    refine hQ H1 ((Hs.bmc (p := p) ?_ fun a c ha hc => ?_))
    · exact g1.tail.tail
    · unfold blitP; rw [if_neg (by omega)]
  by_cases k1 : (W : Int) ≤ x
  · simp -implicitDefEqProofs -dsimp (disch := omega) only [go_sem, Nat.reduceEqDiff, ↓reduceIte, Nat.reduceAdd, Nat.reduceMul, Nat.reduceSub, Nat.reduceLT, Nat.reduceLeDiff, Int.reduceLT, Int.reduceLE, Int.reduceEq, Int.reduceNeg, Int.reduceAdd, Int.reduceMul, Int.reduceSub, Int.reduceToNat, reduceCtorEq, dec_t, dec_f, c5, c9]
    exact none_ (by omega)
  by_cases k2 : (Ht : Int) ≤ y
  · simp -implicitDefEqProofs -dsimp (disch := omega) only [go_sem, Nat.reduceEqDiff, ↓reduceIte, Nat.reduceAdd, Nat.reduceMul, Nat.reduceSub, Nat.reduceLT, Nat.reduceLeDiff, Int.reduceLT, Int.reduceLE, Int.reduceEq, Int.reduceNeg, Int.reduceAdd, Int.reduceMul, Int.reduceSub, Int.reduceToNat, reduceCtorEq, dec_t, dec_f, c5, c9]
    exact none_ (by omega)
  by_cases k3 : x ≤ -(w : Int)
  · simp -implicitDefEqProofs -dsimp (disch := omega) only [go_sem, Nat.reduceEqDiff, ↓reduceIte, Nat.reduceAdd, Nat.reduceMul, Nat.reduceSub, Nat.reduceLT, Nat.reduceLeDiff, Int.reduceLT, Int.reduceLE, Int.reduceEq, Int.reduceNeg, Int.reduceAdd, Int.reduceMul, Int.reduceSub, Int.reduceToNat, reduceCtorEq, dec_t, dec_f, c5, c9, w64]
    exact none_ (by omega)
  by_cases k4 : y ≤ -(h : Int)
  · simp -implicitDefEqProofs -dsimp (disch := omega) only [go_sem, Nat.reduceEqDiff, ↓reduceIte, Nat.reduceAdd, Nat.reduceMul, Nat.reduceSub, Nat.reduceLT, Nat.reduceLeDiff, Int.reduceLT, Int.reduceLE, Int.reduceEq, Int.reduceNeg, Int.reduceAdd, Int.reduceMul, Int.reduceSub, Int.reduceToNat, reduceCtorEq, dec_t, dec_f, c5, c9, w64]
    exact none_ (by omega)
  simp -implicitDefEqProofs -dsimp (disch := omega) only [go_sem, Nat.reduceEqDiff, ↓reduceIte, Nat.reduceAdd, Nat.reduceMul, Nat.reduceSub, Nat.reduceLT, Nat.reduceLeDiff, Int.reduceLT, Int.reduceLE, Int.reduceEq, Int.reduceNeg, Int.reduceAdd, Int.reduceMul, Int.reduceSub, Int.reduceToNat, reduceCtorEq, dec_t, dec_f, c5, c9, w64]
  have g2 : Hs H1 (BmA (.sl va (Wds W Ht p).length vc ve) W Ht (layQ p (pixOf w ws) w h x y 0 0) :: Cel (b + 1) [.int .i64 w, .int .i64 h, .sl sa ws.length sc se] :: Cel b [.int .i64 W, .int .i64 Ht, .sl va (Wds W Ht p).length vc ve] :: R) :=
    (Hs.p2 g1).bmc fun a c _ _ => by unfold layQ; rw [if_neg (by omega)]
  refine loop_cnt h (fun j => ⟨[(1, .int .i64 x), (2, .int .i64 y), (3, .int .i64 0), (5, .ptr (some (b, 0))), (9, .ptr (some (b + 1, 0))), (10, .int .i64 (j : Nat))], []⟩)
    (fun j H => Hs H (BmA (.sl va (Wds W Ht p).length vc ve) W Ht (layQ p (pixOf w ws) w h x y j 0) :: Cel (b + 1) [.int .i64 w, .int .i64 h, .sl sa ws.length sc se] :: Cel b [.int .i64 W, .int .i64 Ht, .sl va (Wds W Ht p).length vc ve] :: R))
    (fun j H2 K hj h2 hn hxx hrr => ?_) 0 H1 (Nat.zero_le _) g2
  have c9 := rd_s h2.p1.cel
  by_cases hjl : j < h
  · simp -implicitDefEqProofs -dsimp (disch := omega) only [go_sem, Nat.reduceEqDiff, ↓reduceIte, Nat.reduceAdd, Nat.reduceMul, Nat.reduceSub, Nat.reduceLT, Nat.reduceLeDiff, Int.reduceLT, Int.reduceLE, Int.reduceEq, Int.reduceNeg, Int.reduceAdd, Int.reduceMul, Int.reduceSub, Int.reduceToNat, reduceCtorEq, dec_t, dec_f, burinref0_Lay_l0, c9]
    refine loop_cnt w (fun i => ⟨[(1, .int .i64 x), (2, .int .i64 y), (3, .int .i64 0), (5, .ptr (some (b, 0))), (9, .ptr (some (b + 1, 0))), (10, .int .i64 (j : Nat)), (11, .int .i64 (i : Nat))], []⟩)
      (fun i H => Hs H (BmA (.sl va (Wds W Ht p).length vc ve) W Ht (layQ p (pixOf w ws) w h x y j i) :: Cel (b + 1) [.int .i64 w, .int .i64 h, .sl sa ws.length sc se] :: Cel b [.int .i64 W, .int .i64 Ht, .sl va (Wds W Ht p).length vc ve] :: R))
      (fun i H3 K2 hi h3 hn2 hxx2 hrr2 => ?_) 0 H2 (Nat.zero_le _) h2
    have c9 := rd_s h3.p1.cel
    have c5 := rd_s h3.p2.cel
    by_cases hil : i < w
    · have skip : ¬ (0 ≤ x + i ∧ x + i < W ∧ 0 ≤ y + j ∧ y + j < Ht) → K2 .normal ⟨[(1, .int .i64 x), (2, .int .i64 y), (3, .int .i64 0), (5, .ptr (some (b, 0))), (9, .ptr (some (b + 1, 0))), (10, .int .i64 (j : Nat)), (11, .int .i64 ((i + 1 : Nat) : Int))], []⟩ H3 := fun k =>
        hn2 hil H3 (h3.bmc fun a c ha hc => by rw [layQ_next hil hjl, if_neg (by omega)])
      by_cases e1 : 0 ≤ x + i
      · by_cases e2 : x + i < W
        · by_cases e3 : 0 ≤ y + j
          · by_cases e4 : y + j < Ht
            · obtain ⟨X, hX⟩ : ∃ X : Nat, x + i = X := ⟨(x + i).toNat, by omega⟩
              obtain ⟨Y, hY⟩ : ∃ Y : Nat, y + j = Y := ⟨(y + j).toNat, by omega⟩
              have r5 := fun {H'} (hh : Hs H' (BmA (.sl va (Wds W Ht p).length vc ve) W Ht (layQ p (pixOf w ws) w h x y j i) :: Cel (b + 1) [.int .i64 w, .int .i64 h, .sl sa ws.length sc se] :: Cel b [.int .i64 W, .int .i64 Ht, .sl va (Wds W Ht p).length vc ve] :: R)) =>
                rd_bm hh (b := b) (l := [.int .i64 W, .int .i64 Ht, .sl va (Wds W Ht p).length vc ve]) (by simp) 3 rfl
              have r9 := fun {H'} (hh : Hs H' (BmA (.sl va (Wds W Ht p).length vc ve) W Ht (layQ p (pixOf w ws) w h x y j i) :: Cel (b + 1) [.int .i64 w, .int .i64 h, .sl sa ws.length sc se] :: Cel b [.int .i64 W, .int .i64 Ht, .sl va (Wds W Ht p).length vc ve] :: R)) =>
                rd_bm hh (b := b + 1) (l := [.int .i64 w, .int .i64 h, .sl sa ws.length sc se]) (by simp) 3 rfl
              have a5 := r5 h3
              have a9 := r9 h3
              have w1 : ((X : Nat) : Int) ≥ 0 := by omega
              simp -implicitDefEqProofs -dsimp (disch := omega) only [go_sem, Nat.reduceEqDiff, ↓reduceIte, Nat.reduceAdd, Nat.reduceMul, Nat.reduceSub, Nat.reduceLT, Nat.reduceLeDiff, Int.reduceLT, Int.reduceLE, Int.reduceEq, Int.reduceNeg, Int.reduceAdd, Int.reduceMul, Int.reduceSub, Int.reduceToNat, reduceCtorEq, dec_t, dec_f, burinref0_Lay_l1, c5, c9, w64, hX, hY, a5, a9]
              have cd : 0 ≤ (X : Int) ∧ (X : Int) < W ∧ 0 ≤ (Y : Int) ∧ (Y : Int) < Ht := by omega
              have ev1 : getV W Ht (layQ p (pixOf w ws) w h x y j i) X Y = (p X Y).toNat := by
                unfold getV layQ
                rw [if_pos cd, Int.toNat_natCast, Int.toNat_natCast, if_neg (by omega)]
              have ev2 : getV w h (pixOf w ws) (i : Int) (j : Int) = (pixOf w ws i j).toNat := by
                unfold getV
                rw [if_pos (by omega), Int.toNat_natCast, Int.toNat_natCast]
              refine getB_ct hz h3 fun H4 h4 _ => ?_
              rw [ev1]
              have a5' := r5 h4
              have a9' := r9 h4
              simp -implicitDefEqProofs -dsimp (disch := omega) only [go_sem, Nat.reduceEqDiff, ↓reduceIte, Nat.reduceAdd, Nat.reduceMul, Nat.reduceSub, Nat.reduceLT, Nat.reduceLeDiff, Int.reduceLT, Int.reduceLE, Int.reduceEq, Int.reduceNeg, Int.reduceAdd, Int.reduceMul, Int.reduceSub, Int.reduceToNat, reduceCtorEq, dec_t, dec_f, ]
              refine aft_intro (t := tag _) (by simp [rechecks, recheck, fresh, Fr.get, Fr.put, look, step, opd, a5', a9']) ?_
              simp -implicitDefEqProofs -dsimp (disch := omega) only [go_sem, Nat.reduceEqDiff, ↓reduceIte, Nat.reduceAdd, Nat.reduceMul, Nat.reduceSub, Nat.reduceLT, Nat.reduceLeDiff, Int.reduceLT, Int.reduceLE, Int.reduceEq, Int.reduceNeg, Int.reduceAdd, Int.reduceMul, Int.reduceSub, Int.reduceToNat, reduceCtorEq, dec_t, dec_f, ]
              refine getR_ct hz h4 (hv H4 h4.tail.tail.tail) z4 hlt ⟨by omega, by omega, by
                have := wds_le (w := w) (h := h) (by rw [← Int.natCast_mul] at z3; omega) (by omega)
                omega⟩ fun H5 h5 _ => ?_
              rw [ev2]
              have a5'' := r5 h5
              simp -implicitDefEqProofs -dsimp (disch := omega) only [go_sem, Nat.reduceEqDiff, ↓reduceIte, Nat.reduceAdd, Nat.reduceMul, Nat.reduceSub, Nat.reduceLT, Nat.reduceLeDiff, Int.reduceLT, Int.reduceLE, Int.reduceEq, Int.reduceNeg, Int.reduceAdd, Int.reduceMul, Int.reduceSub, Int.reduceToNat, reduceCtorEq, dec_t, dec_f, ]
              refine aft_intro (t := tag _) (by simp [rechecks, recheck, fresh, Fr.get, Fr.put, look, step, opd, a5'']) ?_
              simp -implicitDefEqProofs -dsimp (disch := omega) only [go_sem, Nat.reduceEqDiff, ↓reduceIte, Nat.reduceAdd, Nat.reduceMul, Nat.reduceSub, Nat.reduceLT, Nat.reduceLeDiff, Int.reduceLT, Int.reduceLE, Int.reduceEq, Int.reduceNeg, Int.reduceAdd, Int.reduceMul, Int.reduceSub, Int.reduceToNat, reduceCtorEq, dec_t, dec_f, ]
              refine do_ct hz (op := 0) (by omega) ?_
              simp -implicitDefEqProofs -dsimp (disch := omega) only [go_sem, Nat.reduceEqDiff, ↓reduceIte, Nat.reduceAdd, Nat.reduceMul, Nat.reduceSub, Nat.reduceLT, Nat.reduceLeDiff, Int.reduceLT, Int.reduceLE, Int.reduceEq, Int.reduceNeg, Int.reduceAdd, Int.reduceMul, Int.reduceSub, Int.reduceToNat, reduceCtorEq, dec_t, dec_f, ]
              refine aft_intro (t := tag _) (by simp [rechecks, recheck, fresh, Fr.get, Fr.put, look, step, opd, a5'']) ?_
              simp -implicitDefEqProofs -dsimp (disch := omega) only [go_sem, Nat.reduceEqDiff, ↓reduceIte, Nat.reduceAdd, Nat.reduceMul, Nat.reduceSub, Nat.reduceLT, Nat.reduceLeDiff, Int.reduceLT, Int.reduceLE, Int.reduceEq, Int.reduceNeg, Int.reduceAdd, Int.reduceMul, Int.reduceSub, Int.reduceToNat, reduceCtorEq, dec_t, dec_f, ]
              refine putR_ct hz h5 (x := X) (y := Y) (by omega) (by omega) fun H6 h6 => ?_
              simp -implicitDefEqProofs -dsimp (disch := omega) only [go_sem, Nat.reduceEqDiff, ↓reduceIte, Nat.reduceAdd, Nat.reduceMul, Nat.reduceSub, Nat.reduceLT, Nat.reduceLeDiff, Int.reduceLT, Int.reduceLE, Int.reduceEq, Int.reduceNeg, Int.reduceAdd, Int.reduceMul, Int.reduceSub, Int.reduceToNat, reduceCtorEq, dec_t, dec_f, w64, cadd1]
              refine hn2 hil H6 (h6.bmc fun a c ha hc => ?_)
              rw [layQ_next hil hjl]
              unfold updP
              by_cases q : a = X ∧ c = Y
              · obtain ⟨rfl, rfl⟩ := q
                rw [if_pos ⟨rfl, rfl⟩, if_pos (by omega)]
                unfold opB
                rw [if_pos rfl]
                cases p a c <;> cases pixOf w ws i j <;> rfl
              · rw [if_neg q, if_neg (by omega)]
            · simp -implicitDefEqProofs -dsimp (disch := omega) only [go_sem, Nat.reduceEqDiff, ↓reduceIte, Nat.reduceAdd, Nat.reduceMul, Nat.reduceSub, Nat.reduceLT, Nat.reduceLeDiff, Int.reduceLT, Int.reduceLE, Int.reduceEq, Int.reduceNeg, Int.reduceAdd, Int.reduceMul, Int.reduceSub, Int.reduceToNat, reduceCtorEq, dec_t, dec_f, burinref0_Lay_l1, c5, c9, w64, cadd1]
              exact skip (by omega)
          · simp -implicitDefEqProofs -dsimp (disch := omega) only [go_sem, Nat.reduceEqDiff, ↓reduceIte, Nat.reduceAdd, Nat.reduceMul, Nat.reduceSub, Nat.reduceLT, Nat.reduceLeDiff, Int.reduceLT, Int.reduceLE, Int.reduceEq, Int.reduceNeg, Int.reduceAdd, Int.reduceMul, Int.reduceSub, Int.reduceToNat, reduceCtorEq, dec_t, dec_f, burinref0_Lay_l1, c5, c9, w64, cadd1]
            exact skip (by omega)
        · simp -implicitDefEqProofs -dsimp (disch := omega) only [go_sem, Nat.reduceEqDiff, ↓reduceIte, Nat.reduceAdd, Nat.reduceMul, Nat.reduceSub, Nat.reduceLT, Nat.reduceLeDiff, Int.reduceLT, Int.reduceLE, Int.reduceEq, Int.reduceNeg, Int.reduceAdd, Int.reduceMul, Int.reduceSub, Int.reduceToNat, reduceCtorEq, dec_t, dec_f, burinref0_Lay_l1, c5, c9, w64, cadd1]
          exact skip (by omega)
      · simp -implicitDefEqProofs -dsimp (disch := omega) only [go_sem, Nat.reduceEqDiff, ↓reduceIte, Nat.reduceAdd, Nat.reduceMul, Nat.reduceSub, Nat.reduceLT, Nat.reduceLeDiff, Int.reduceLT, Int.reduceLE, Int.reduceEq, Int.reduceNeg, Int.reduceAdd, Int.reduceMul, Int.reduceSub, Int.reduceToNat, reduceCtorEq, dec_t, dec_f, burinref0_Lay_l1, c5, c9, w64, cadd1]
        exact skip (by omega)
    · obtain rfl : i = w := by omega
      simp -implicitDefEqProofs -dsimp (disch := omega) only [go_sem, Nat.reduceEqDiff, ↓reduceIte, Nat.reduceAdd, Nat.reduceMul, Nat.reduceSub, Nat.reduceLT, Nat.reduceLeDiff, Int.reduceLT, Int.reduceLE, Int.reduceEq, Int.reduceNeg, Int.reduceAdd, Int.reduceMul, Int.reduceSub, Int.reduceToNat, reduceCtorEq, dec_t, dec_f, burinref0_Lay_l1, c9]
      rw [hxx2]
      simp -implicitDefEqProofs -dsimp (disch := omega) only [go_sem, Nat.reduceEqDiff, ↓reduceIte, Nat.reduceAdd, Nat.reduceMul, Nat.reduceSub, Nat.reduceLT, Nat.reduceLeDiff, Int.reduceLT, Int.reduceLE, Int.reduceEq, Int.reduceNeg, Int.reduceAdd, Int.reduceMul, Int.reduceSub, Int.reduceToNat, reduceCtorEq, dec_t, dec_f, w64, cadd1]
      exact hn hjl H3 (h3.bmc fun a c _ _ => layQ_row)
  · obtain rfl : j = h := by omega
    simp -implicitDefEqProofs -dsimp (disch := omega) only [go_sem, Nat.reduceEqDiff, ↓reduceIte, Nat.reduceAdd, Nat.reduceMul, Nat.reduceSub, Nat.reduceLT, Nat.reduceLeDiff, Int.reduceLT, Int.reduceLE, Int.reduceEq, Int.reduceNeg, Int.reduceAdd, Int.reduceMul, Int.reduceSub, Int.reduceToNat, reduceCtorEq, dec_t, dec_f, burinref0_Lay_l0, c9]
    rw [hxx]
    simp -implicitDefEqProofs -dsimp (disch := omega) only [go_sem, Nat.reduceEqDiff, ↓reduceIte, Nat.reduceAdd, Nat.reduceMul, Nat.reduceSub, Nat.reduceLT, Nat.reduceLeDiff, Int.reduceLT, Int.reduceLE, Int.reduceEq, Int.reduceNeg, Int.reduceAdd, Int.reduceMul, Int.reduceSub, Int.reduceToNat, reduceCtorEq, dec_t, dec_f, ]
    exact hQ H2 ((h2.bmc fun a c _ _ => layQ_all).tail2.tail2)
end
end Go.Ab
