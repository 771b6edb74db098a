/- The law CompsRing. Conditions: none. -/
import Derived.Test.YtfgecfbknpifjaaPr
import Derived.Test.YtfgecfbknpifjaaPL10Ring
set_option linter.all false
namespace Go.Ab
def pdr (f : Nat → Nat → Bool) (y0 x0 : Nat) : Nat → Nat → Bool := fun x y => decide (y < y0 ∨ y = y0 ∧ x < x0) && f x y
section
variable {P : Prog} {H : Heap} {T : List As} {b1 b2 b3 : Nat} {v : V}
theorem pdr_next {f : Nat → Nat → Bool} {y0 x0 w h : Nat} {b : Bool} (hb : b = f x0 y0) : ∀ x y, x < w → y < h → updP (pdr f y0 x0) x0 y0 b x y = pdr f y0 (x0 + 1) x y := fun x y _ _ => by
  subst hb
  unfold updP pdr
  by_cases c : x = x0 ∧ y = y0
  · obtain ⟨rfl, rfl⟩ := c
    rw [if_pos ⟨rfl, rfl⟩, decide_eq_true (by omega), Bool.true_and]
  · rw [if_neg c, show decide (y < y0 ∨ y = y0 ∧ x < x0) = decide (y < y0 ∨ y = y0 ∧ x < x0 + 1) from decide_eq_decide.2 (by omega)]
theorem pdr_skip {f : Nat → Nat → Bool} {y0 x0 w h : Nat} (hb : f x0 y0 = false) : ∀ x y, x < w → y < h → pdr f y0 x0 x y = pdr f y0 (x0 + 1) x y := fun x y _ _ => by
  unfold pdr
  by_cases c : x = x0 ∧ y = y0
  · obtain ⟨rfl, rfl⟩ := c
    rw [hb, Bool.and_false, Bool.and_false]
  · rw [show decide (y < y0 ∨ y = y0 ∧ x < x0) = decide (y < y0 ∨ y = y0 ∧ x < x0 + 1) from decide_eq_decide.2 (by omega)]
theorem pdr_row {f : Nat → Nat → Bool} {y0 x0 w h : Nat} (hw : w ≤ x0) : ∀ x y, x < w → y < h → pdr f y0 x0 x y = pdr f (y0 + 1) 0 x y := fun x y hx _ => by
  unfold pdr
  rw [show decide (y < y0 ∨ y = y0 ∧ x < x0) = decide (y < y0 + 1 ∨ y = y0 + 1 ∧ x < 0) from decide_eq_decide.2 (by omega)]
theorem pdr_0 {f : Nat → Nat → Bool} {w h : Nat} : ∀ x y, x < w → y < h → (fun _ _ => false) x y = pdr f 0 0 x y := fun x y _ _ => by
  unfold pdr; rw [decide_eq_false (by omega), Bool.false_and]
theorem pdr_h {f : Nat → Nat → Bool} {w h y0 : Nat} (hh : h ≤ y0) : ∀ x y, x < w → y < h → pdr f y0 0 x y = f x y := fun x y _ hy => by
  unfold pdr; rw [decide_eq_true (by omega), Bool.true_and]
set_option maxRecDepth 20000 in
set_option maxHeartbeats 1000000 in
theorem rg_l5 (hp : HasRz P) {Q : Post} {t : Tag Q} {s : Tag burinlaw10_CompsRing_l5} {y : Nat} (hy : y < 201) (m1 : Cel b1 [.int .i64 200, .int .i64 201, v] ∈ T) (hs : Hs H (BmA v 200 201 (pdr snk y 0) :: T))
    (hK : ∀ H' ex, Hs H' (BmA v 200 201 (pdr snk (y + 1) 0) :: T) → Q (.exit 2) ⟨(1, .ptr (some (b1, 0))) :: (2, .ptr (some (b2, 0))) :: (3, .ptr (some (b3, 0))) :: (4, .int .i64 (y : Nat)) :: ex, []⟩ H') :
    loopL (Call P) [1, 2, 3, 4, 5] burinlaw10_CompsRing_l5 Q t s ⟨[(1, .ptr (some (b1, 0))), (2, .ptr (some (b2, 0))), (3, .ptr (some (b3, 0))), (4, .int .i64 (y : Nat)), (5, .int .i64 ((0 : Nat) : Int))], []⟩ H := by
  refine loop_cnt 200 (fun x => ⟨[(1, .ptr (some (b1, 0))), (2, .ptr (some (b2, 0))), (3, .ptr (some (b3, 0))), (4, .int .i64 (y : Nat)), (5, .int .i64 (x : Nat))], []⟩)
    (fun x H => Hs H (BmA v 200 201 (pdr snk y x) :: T)) (fun x H1 K hi h1 hn hx hrr => ?_) 0 H (Nat.zero_le _) hs
  have c1 := rd_bm h1.tail m1 3 rfl
  by_cases hlt : x < 200
  · have yes : snk x y = true → CallL (Call P) 79 [.agg [.int .i64 200, .int .i64 201, v], .int .i64 (x : Nat), .int .i64 (y : Nat), .int .i64 1] H1 (fun o H' => o = .ret (.tup []) ∧ Hs H' (BmA v 200 201 (pdr snk y (x + 1)) :: T)) (tag _) := fun hb =>
      putR_ct (w := 200) (h := 201) hp h1 hlt hy fun H2 h2 => ⟨rfl, h2.bmc (pdr_next (by rw [hb]; rfl))⟩
    by_cases cb : snk x y = true
    · have yes := yes cb
      unfold snk at cb
      rw [decide_eq_true_eq] at cb
      rcases cb with c | ⟨c, c'⟩ | ⟨c, c'⟩
      · simp -implicitDefEqProofs -dsimp (disch := omega) only [go_sem, Nat.reduceEqDiff, ↓reduceIte, Nat.reduceAdd, Nat.reduceMul, Nat.reduceSub, Nat.reduceLT, Nat.reduceLeDiff, Int.reduceLT, Int.reduceLE, Int.reduceEq, Int.reduceNeg, Int.reduceAdd, Int.reduceMul, Int.reduceSub, Int.reduceToNat, reduceCtorEq, dec_t, dec_f, burinlaw10_CompsRing_l5, w64, cadd1, tmodN, c1]
        refine callL_of yes fun o H2 ⟨e, h2⟩ => ?_
        subst e
        simp -implicitDefEqProofs -dsimp (disch := omega) only [go_sem, Nat.reduceEqDiff, ↓reduceIte, Nat.reduceAdd, Nat.reduceMul, Nat.reduceSub, Nat.reduceLT, Nat.reduceLeDiff, Int.reduceLT, Int.reduceLE, Int.reduceEq, Int.reduceNeg, Int.reduceAdd, Int.reduceMul, Int.reduceSub, Int.reduceToNat, reduceCtorEq, dec_t, dec_f, w64, cadd1]
        exact hn hlt H2 h2
      · simp -implicitDefEqProofs -dsimp (disch := omega) only [go_sem, Nat.reduceEqDiff, ↓reduceIte, Nat.reduceAdd, Nat.reduceMul, Nat.reduceSub, Nat.reduceLT, Nat.reduceLeDiff, Int.reduceLT, Int.reduceLE, Int.reduceEq, Int.reduceNeg, Int.reduceAdd, Int.reduceMul, Int.reduceSub, Int.reduceToNat, reduceCtorEq, dec_t, dec_f, burinlaw10_CompsRing_l5, w64, cadd1, tmodN, c1]
        refine callL_of yes fun o H2 ⟨e, h2⟩ => ?_
        subst e
        simp -implicitDefEqProofs -dsimp (disch := omega) only [go_sem, Nat.reduceEqDiff, ↓reduceIte, Nat.reduceAdd, Nat.reduceMul, Nat.reduceSub, Nat.reduceLT, Nat.reduceLeDiff, Int.reduceLT, Int.reduceLE, Int.reduceEq, Int.reduceNeg, Int.reduceAdd, Int.reduceMul, Int.reduceSub, Int.reduceToNat, reduceCtorEq, dec_t, dec_f, w64, cadd1]
        exact hn hlt H2 h2
      · simp -implicitDefEqProofs -dsimp (disch := omega) only [go_sem, Nat.reduceEqDiff, ↓reduceIte, Nat.reduceAdd, Nat.reduceMul, Nat.reduceSub, Nat.reduceLT, Nat.reduceLeDiff, Int.reduceLT, Int.reduceLE, Int.reduceEq, Int.reduceNeg, Int.reduceAdd, Int.reduceMul, Int.reduceSub, Int.reduceToNat, reduceCtorEq, dec_t, dec_f, burinlaw10_CompsRing_l5, w64, cadd1, tmodN, c1]
        refine callL_of yes fun o H2 ⟨e, h2⟩ => ?_
        subst e
        simp -implicitDefEqProofs -dsimp (disch := omega) only [go_sem, Nat.reduceEqDiff, ↓reduceIte, Nat.reduceAdd, Nat.reduceMul, Nat.reduceSub, Nat.reduceLT, Nat.reduceLeDiff, Int.reduceLT, Int.reduceLE, Int.reduceEq, Int.reduceNeg, Int.reduceAdd, Int.reduceMul, Int.reduceSub, Int.reduceToNat, reduceCtorEq, dec_t, dec_f, w64, cadd1]
        exact hn hlt H2 h2
    · have cb' : snk x y = false := by simpa using cb
      have h2 := h1.bmc (pdr_skip (w := 200) (h := 201) cb')
      unfold snk at cb
      rw [decide_eq_true_eq] at cb
      by_cases c1 : y % 4 = 1
      · simp -implicitDefEqProofs -dsimp (disch := omega) only [go_sem, Nat.reduceEqDiff, ↓reduceIte, Nat.reduceAdd, Nat.reduceMul, Nat.reduceSub, Nat.reduceLT, Nat.reduceLeDiff, Int.reduceLT, Int.reduceLE, Int.reduceEq, Int.reduceNeg, Int.reduceAdd, Int.reduceMul, Int.reduceSub, Int.reduceToNat, reduceCtorEq, dec_t, dec_f, burinlaw10_CompsRing_l5, w64, cadd1, tmodN]
        exact hn hlt H1 h2
      · simp -implicitDefEqProofs -dsimp (disch := omega) only [go_sem, Nat.reduceEqDiff, ↓reduceIte, Nat.reduceAdd, Nat.reduceMul, Nat.reduceSub, Nat.reduceLT, Nat.reduceLeDiff, Int.reduceLT, Int.reduceLE, Int.reduceEq, Int.reduceNeg, Int.reduceAdd, Int.reduceMul, Int.reduceSub, Int.reduceToNat, reduceCtorEq, dec_t, dec_f, burinlaw10_CompsRing_l5, w64, cadd1, tmodN]
        exact hn hlt H1 h2
  · obtain rfl : x = 200 := by omega
    simp -implicitDefEqProofs -dsimp (disch := omega) only [go_sem, Nat.reduceEqDiff, ↓reduceIte, Nat.reduceAdd, Nat.reduceMul, Nat.reduceSub, Nat.reduceLT, Nat.reduceLeDiff, Int.reduceLT, Int.reduceLE, Int.reduceEq, Int.reduceNeg, Int.reduceAdd, Int.reduceMul, Int.reduceSub, Int.reduceToNat, reduceCtorEq, dec_t, dec_f, burinlaw10_CompsRing_l5]
    rw [hx]
    exact hK H1 _ (h1.bmc (pdr_row (Nat.le_refl _)))
set_option maxRecDepth 20000 in
set_option maxHeartbeats 1000000 in
theorem rg_l4 (hp : HasRz P) {Q : Post} {t : Tag Q} {s : Tag burinlaw10_CompsRing_l4} (m1 : Cel b1 [.int .i64 200, .int .i64 201, v] ∈ T) (hs : Hs H (BmA v 200 201 (fun _ _ => false) :: T))
    (hK : ∀ H' ex, Hs H' (BmA v 200 201 snk :: T) → Q (.exit 0) ⟨(1, .ptr (some (b1, 0))) :: (2, .ptr (some (b2, 0))) :: (3, .ptr (some (b3, 0))) :: ex, []⟩ H') :
    loopL (Call P) [1, 2, 3, 4] burinlaw10_CompsRing_l4 Q t s ⟨[(1, .ptr (some (b1, 0))), (2, .ptr (some (b2, 0))), (3, .ptr (some (b3, 0))), (4, .int .i64 ((0 : Nat) : Int))], []⟩ H := by
  refine loop_cnt 201 (fun y => ⟨[(1, .ptr (some (b1, 0))), (2, .ptr (some (b2, 0))), (3, .ptr (some (b3, 0))), (4, .int .i64 (y : Nat))], []⟩)
    (fun y H => Hs H (BmA v 200 201 (pdr snk y 0) :: T)) (fun y H1 K hi h1 hn hx hrr => ?_) 0 H (Nat.zero_le _) (hs.bmc pdr_0)
  by_cases hlt : y < 201
  · simp -implicitDefEqProofs -dsimp (disch := omega) only [go_sem, Nat.reduceEqDiff, ↓reduceIte, Nat.reduceAdd, Nat.reduceMul, Nat.reduceSub, Nat.reduceLT, Nat.reduceLeDiff, Int.reduceLT, Int.reduceLE, Int.reduceEq, Int.reduceNeg, Int.reduceAdd, Int.reduceMul, Int.reduceSub, Int.reduceToNat, reduceCtorEq, dec_t, dec_f, burinlaw10_CompsRing_l4]
    refine rg_l5 hp hlt m1 h1 fun H2 ex h2 => ?_
    simp -implicitDefEqProofs -dsimp (disch := omega) only [go_sem, Nat.reduceEqDiff, ↓reduceIte, Nat.reduceAdd, Nat.reduceMul, Nat.reduceSub, Nat.reduceLT, Nat.reduceLeDiff, Int.reduceLT, Int.reduceLE, Int.reduceEq, Int.reduceNeg, Int.reduceAdd, Int.reduceMul, Int.reduceSub, Int.reduceToNat, reduceCtorEq, dec_t, dec_f, w64, cadd1]
    exact hn hlt H2 h2
  · obtain rfl : y = 201 := by omega
    simp -implicitDefEqProofs -dsimp (disch := omega) only [go_sem, Nat.reduceEqDiff, ↓reduceIte, Nat.reduceAdd, Nat.reduceMul, Nat.reduceSub, Nat.reduceLT, Nat.reduceLeDiff, Int.reduceLT, Int.reduceLE, Int.reduceEq, Int.reduceNeg, Int.reduceAdd, Int.reduceMul, Int.reduceSub, Int.reduceToNat, reduceCtorEq, dec_t, dec_f, burinlaw10_CompsRing_l4]
    rw [hx]
    exact hK H1 _ (h1.bmc (pdr_h (Nat.le_refl _)))
set_option maxRecDepth 20000 in
set_option maxHeartbeats 1000000 in
theorem rg_l3 (hp : HasRz P) {Q : Post} {t : Tag Q} {s : Tag burinlaw10_CompsRing_l3} {y : Nat} (hy : y < 150) (m1 : Cel b2 [.int .i64 150, .int .i64 150, v] ∈ T) (hs : Hs H (BmA v 150 150 (pdr brd y 0) :: T))
    (hK : ∀ H' ex, Hs H' (BmA v 150 150 (pdr brd (y + 1) 0) :: T) → Q (.exit 6) ⟨(1, .ptr (some (b1, 0))) :: (2, .ptr (some (b2, 0))) :: (3, .ptr (some (b3, 0))) :: (6, .int .i64 (y : Nat)) :: ex, []⟩ H') :
    loopL (Call P) [1, 2, 3, 6, 7] burinlaw10_CompsRing_l3 Q t s ⟨[(1, .ptr (some (b1, 0))), (2, .ptr (some (b2, 0))), (3, .ptr (some (b3, 0))), (6, .int .i64 (y : Nat)), (7, .int .i64 ((0 : Nat) : Int))], []⟩ H := by
  refine loop_cnt 150 (fun x => ⟨[(1, .ptr (some (b1, 0))), (2, .ptr (some (b2, 0))), (3, .ptr (some (b3, 0))), (6, .int .i64 (y : Nat)), (7, .int .i64 (x : Nat))], []⟩)
    (fun x H => Hs H (BmA v 150 150 (pdr brd y x) :: T)) (fun x H1 K hi h1 hn hx hrr => ?_) 0 H (Nat.zero_le _) hs
  have c1 := rd_bm h1.tail m1 3 rfl
  by_cases hlt : x < 150
  · simp -implicitDefEqProofs -dsimp (disch := omega) only [go_sem, Nat.reduceEqDiff, ↓reduceIte, Nat.reduceAdd, Nat.reduceMul, Nat.reduceSub, Nat.reduceLT, Nat.reduceLeDiff, Int.reduceLT, Int.reduceLE, Int.reduceEq, Int.reduceNeg, Int.reduceAdd, Int.reduceMul, Int.reduceSub, Int.reduceToNat, reduceCtorEq, dec_t, dec_f, burinlaw10_CompsRing_l3, w64, cadd1, tmodN, c1]
    refine putR_ct (w := 150) (h := 150) hp h1 hlt hy fun H2 h2 => ?_
    simp -implicitDefEqProofs -dsimp (disch := omega) only [go_sem, Nat.reduceEqDiff, ↓reduceIte, Nat.reduceAdd, Nat.reduceMul, Nat.reduceSub, Nat.reduceLT, Nat.reduceLeDiff, Int.reduceLT, Int.reduceLE, Int.reduceEq, Int.reduceNeg, Int.reduceAdd, Int.reduceMul, Int.reduceSub, Int.reduceToNat, reduceCtorEq, dec_t, dec_f, w64, cadd1]
    exact hn hlt H2 (h2.bmc (pdr_next (by unfold brd; exact decide_eq_decide.2 (by omega))))
  · obtain rfl : x = 150 := by omega
    simp -implicitDefEqProofs -dsimp (disch := omega) only [go_sem, Nat.reduceEqDiff, ↓reduceIte, Nat.reduceAdd, Nat.reduceMul, Nat.reduceSub, Nat.reduceLT, Nat.reduceLeDiff, Int.reduceLT, Int.reduceLE, Int.reduceEq, Int.reduceNeg, Int.reduceAdd, Int.reduceMul, Int.reduceSub, Int.reduceToNat, reduceCtorEq, dec_t, dec_f, burinlaw10_CompsRing_l3]
    rw [hx]
    exact hK H1 _ (h1.bmc (pdr_row (Nat.le_refl _)))
set_option maxRecDepth 20000 in
set_option maxHeartbeats 1000000 in
theorem rg_l2 (hp : HasRz P) {Q : Post} {t : Tag Q} {s : Tag burinlaw10_CompsRing_l2} (m1 : Cel b2 [.int .i64 150, .int .i64 150, v] ∈ T) (hs : Hs H (BmA v 150 150 (fun _ _ => false) :: T))
    (hK : ∀ H' ex, Hs H' (BmA v 150 150 brd :: T) → Q (.exit 4) ⟨(1, .ptr (some (b1, 0))) :: (2, .ptr (some (b2, 0))) :: (3, .ptr (some (b3, 0))) :: ex, []⟩ H') :
    loopL (Call P) [1, 2, 3, 6] burinlaw10_CompsRing_l2 Q t s ⟨[(1, .ptr (some (b1, 0))), (2, .ptr (some (b2, 0))), (3, .ptr (some (b3, 0))), (6, .int .i64 ((0 : Nat) : Int))], []⟩ H := by
  refine loop_cnt 150 (fun y => ⟨[(1, .ptr (some (b1, 0))), (2, .ptr (some (b2, 0))), (3, .ptr (some (b3, 0))), (6, .int .i64 (y : Nat))], []⟩)
    (fun y H => Hs H (BmA v 150 150 (pdr brd y 0) :: T)) (fun y H1 K hi h1 hn hx hrr => ?_) 0 H (Nat.zero_le _) (hs.bmc pdr_0)
  by_cases hlt : y < 150
  · simp -implicitDefEqProofs -dsimp (disch := omega) only [go_sem, Nat.reduceEqDiff, ↓reduceIte, Nat.reduceAdd, Nat.reduceMul, Nat.reduceSub, Nat.reduceLT, Nat.reduceLeDiff, Int.reduceLT, Int.reduceLE, Int.reduceEq, Int.reduceNeg, Int.reduceAdd, Int.reduceMul, Int.reduceSub, Int.reduceToNat, reduceCtorEq, dec_t, dec_f, burinlaw10_CompsRing_l2]
    refine rg_l3 hp hlt m1 h1 fun H2 ex h2 => ?_
    simp -implicitDefEqProofs -dsimp (disch := omega) only [go_sem, Nat.reduceEqDiff, ↓reduceIte, Nat.reduceAdd, Nat.reduceMul, Nat.reduceSub, Nat.reduceLT, Nat.reduceLeDiff, Int.reduceLT, Int.reduceLE, Int.reduceEq, Int.reduceNeg, Int.reduceAdd, Int.reduceMul, Int.reduceSub, Int.reduceToNat, reduceCtorEq, dec_t, dec_f, w64, cadd1]
    exact hn hlt H2 h2
  · obtain rfl : y = 150 := by omega
    simp -implicitDefEqProofs -dsimp (disch := omega) only [go_sem, Nat.reduceEqDiff, ↓reduceIte, Nat.reduceAdd, Nat.reduceMul, Nat.reduceSub, Nat.reduceLT, Nat.reduceLeDiff, Int.reduceLT, Int.reduceLE, Int.reduceEq, Int.reduceNeg, Int.reduceAdd, Int.reduceMul, Int.reduceSub, Int.reduceToNat, reduceCtorEq, dec_t, dec_f, burinlaw10_CompsRing_l2]
    rw [hx]
    exact hK H1 _ (h1.bmc (pdr_h (Nat.le_refl _)))
theorem cadd2 (n : Nat) : (n : Int) + 2 = ((n + 2 : Nat) : Int) := rfl
set_option maxRecDepth 20000 in
set_option maxHeartbeats 1000000 in
theorem rg_l1 (hp : HasRz P) {Q : Post} {t : Tag Q} {s : Tag burinlaw10_CompsRing_l1} {y : Nat} (hy : 2 * y < 100) (m1 : Cel b3 [.int .i64 100, .int .i64 100, v] ∈ T) (hs : Hs H (BmA v 100 100 (pdr dts (2 * y) 0) :: T))
    (hK : ∀ H' ex, Hs H' (BmA v 100 100 (pdr dts (2 * (y + 1)) 0) :: T) → Q (.exit 10) ⟨(1, .ptr (some (b1, 0))) :: (2, .ptr (some (b2, 0))) :: (3, .ptr (some (b3, 0))) :: (8, .int .i64 ((2 * y : Nat) : Int)) :: ex, []⟩ H') :
    loopL (Call P) [1, 2, 3, 8, 9] burinlaw10_CompsRing_l1 Q t s ⟨[(1, .ptr (some (b1, 0))), (2, .ptr (some (b2, 0))), (3, .ptr (some (b3, 0))), (8, .int .i64 ((2 * y : Nat) : Int)), (9, .int .i64 ((0 : Nat) : Int))], []⟩ H := by
  refine loop_cnt 50 (fun x => ⟨[(1, .ptr (some (b1, 0))), (2, .ptr (some (b2, 0))), (3, .ptr (some (b3, 0))), (8, .int .i64 ((2 * y : Nat) : Int)), (9, .int .i64 ((2 * x : Nat) : Int))], []⟩)
    (fun x H => Hs H (BmA v 100 100 (pdr dts (2 * y) (2 * x)) :: T)) (fun x H1 K hi h1 hn hx hrr => ?_) 0 H (Nat.zero_le _) hs
  have c1 := rd_bm h1.tail m1 3 rfl
  by_cases hlt : x < 50
  · have e : ((2 * x : Nat) : Int) + 2 = ((2 * (x + 1) : Nat) : Int) := by omega
    simp -implicitDefEqProofs -dsimp (disch := omega) only [go_sem, Nat.reduceEqDiff, ↓reduceIte, Nat.reduceAdd, Nat.reduceMul, Nat.reduceSub, Nat.reduceLT, Nat.reduceLeDiff, Int.reduceLT, Int.reduceLE, Int.reduceEq, Int.reduceNeg, Int.reduceAdd, Int.reduceMul, Int.reduceSub, Int.reduceToNat, reduceCtorEq, dec_t, dec_f, burinlaw10_CompsRing_l1, c1]
    refine putR_ct (w := 100) (h := 100) hp h1 (by omega) hy fun H2 h2 => ?_
    simp -implicitDefEqProofs -dsimp (disch := omega) only [go_sem, Nat.reduceEqDiff, ↓reduceIte, Nat.reduceAdd, Nat.reduceMul, Nat.reduceSub, Nat.reduceLT, Nat.reduceLeDiff, Int.reduceLT, Int.reduceLE, Int.reduceEq, Int.reduceNeg, Int.reduceAdd, Int.reduceMul, Int.reduceSub, Int.reduceToNat, reduceCtorEq, dec_t, dec_f, w64, e]
    have h3 := h2.bmc (pdr_next (f := dts) (w := 100) (h := 100) (by unfold dts; rw [decide_eq_true rfl, decide_eq_true (by omega)]))
    have h4 := h3.bmc (pdr_skip (f := dts) (w := 100) (h := 100) (by unfold dts; rw [decide_eq_false (by omega)]))
    exact hn hlt H2 h4
  · obtain rfl : x = 50 := by omega
    simp -implicitDefEqProofs -dsimp (disch := omega) only [go_sem, Nat.reduceEqDiff, ↓reduceIte, Nat.reduceAdd, Nat.reduceMul, Nat.reduceSub, Nat.reduceLT, Nat.reduceLeDiff, Int.reduceLT, Int.reduceLE, Int.reduceEq, Int.reduceNeg, Int.reduceAdd, Int.reduceMul, Int.reduceSub, Int.reduceToNat, reduceCtorEq, dec_t, dec_f, burinlaw10_CompsRing_l1]
    rw [hx]
    have h2 := h1.bmc (pdr_row (f := dts) (w := 100) (h := 100) (x0 := 2 * 50) (by omega))
    refine hK H1 _ (h2.bmc fun x z hx hz => ?_)
    unfold pdr dts
    rw [← Bool.decide_and, ← Bool.decide_and]
    exact decide_eq_decide.2 (by omega)
set_option maxRecDepth 20000 in
set_option maxHeartbeats 1000000 in
theorem rg_l0 (hp : HasRz P) {Q : Post} {t : Tag Q} {s : Tag burinlaw10_CompsRing_l0} (m1 : Cel b3 [.int .i64 100, .int .i64 100, v] ∈ T) (hs : Hs H (BmA v 100 100 (fun _ _ => false) :: T))
    (hK : ∀ H' ex, Hs H' (BmA v 100 100 dts :: T) → Q (.exit 8) ⟨(1, .ptr (some (b1, 0))) :: (2, .ptr (some (b2, 0))) :: (3, .ptr (some (b3, 0))) :: ex, []⟩ H') :
    loopL (Call P) [1, 2, 3, 8] burinlaw10_CompsRing_l0 Q t s ⟨[(1, .ptr (some (b1, 0))), (2, .ptr (some (b2, 0))), (3, .ptr (some (b3, 0))), (8, .int .i64 ((0 : Nat) : Int))], []⟩ H := by
  refine loop_cnt 50 (fun y => ⟨[(1, .ptr (some (b1, 0))), (2, .ptr (some (b2, 0))), (3, .ptr (some (b3, 0))), (8, .int .i64 ((2 * y : Nat) : Int))], []⟩)
    (fun y H => Hs H (BmA v 100 100 (pdr dts (2 * y) 0) :: T)) (fun y H1 K hi h1 hn hx hrr => ?_) 0 H (Nat.zero_le _) (hs.bmc pdr_0)
  by_cases hlt : y < 50
  · have e : ((2 * y : Nat) : Int) + 2 = ((2 * (y + 1) : Nat) : Int) := by omega
    simp -implicitDefEqProofs -dsimp (disch := omega) only [go_sem, Nat.reduceEqDiff, ↓reduceIte, Nat.reduceAdd, Nat.reduceMul, Nat.reduceSub, Nat.reduceLT, Nat.reduceLeDiff, Int.reduceLT, Int.reduceLE, Int.reduceEq, Int.reduceNeg, Int.reduceAdd, Int.reduceMul, Int.reduceSub, Int.reduceToNat, reduceCtorEq, dec_t, dec_f, burinlaw10_CompsRing_l0]
    refine rg_l1 hp (by omega) m1 h1 fun H2 ex h2 => ?_
    simp -implicitDefEqProofs -dsimp (disch := omega) only [go_sem, Nat.reduceEqDiff, ↓reduceIte, Nat.reduceAdd, Nat.reduceMul, Nat.reduceSub, Nat.reduceLT, Nat.reduceLeDiff, Int.reduceLT, Int.reduceLE, Int.reduceEq, Int.reduceNeg, Int.reduceAdd, Int.reduceMul, Int.reduceSub, Int.reduceToNat, reduceCtorEq, dec_t, dec_f, w64, e]
    exact hn hlt H2 h2
  · obtain rfl : y = 50 := by omega
    simp -implicitDefEqProofs -dsimp (disch := omega) only [go_sem, Nat.reduceEqDiff, ↓reduceIte, Nat.reduceAdd, Nat.reduceMul, Nat.reduceSub, Nat.reduceLT, Nat.reduceLeDiff, Int.reduceLT, Int.reduceLE, Int.reduceEq, Int.reduceNeg, Int.reduceAdd, Int.reduceMul, Int.reduceSub, Int.reduceToNat, reduceCtorEq, dec_t, dec_f, burinlaw10_CompsRing_l0]
    rw [hx]
    exact hK H1 _ (h1.bmc (pdr_h (by omega)))
theorem ofB (hp : HasL10 P) {R : List As} {Q : Out → Heap → Prop} {w h : Nat} {p : Nat → Nat → Bool} (hs : Hs H R) (m : BmA v w h p ∈ R) (hQ : ∀ ov PR H', PR.map PcR.p = pcsOf p w h → Hs H' (StP ov PR R) → Q (.ret (.tup [ov, .int .i64 0])) H') :
    Call P 181 [.agg [.int .i64 (w : Nat), .int .i64 (h : Nat), v]] H Q := by
  obtain ⟨z1, z2, z3, z4, z5⟩ := bmSz (hs.ofmem m)
  refine compsOf_ct hp.bm hp.ru hp.co hs (fun H' h' => h'.bmarr m) (Wds_lt _ _ _) (by unfold i64r; omega) (by unfold i64r; omega) (fun n => absurd (mayB_Wds z1 z2 z3) n) fun _ ov PR H' h1 h2 => hQ ov PR H' ?_ h2
  rw [h1, Int.toNat_natCast, Int.toNat_natCast]
  exact pcs_congr fun x y hx hy => pixOf_Wds p hx hy
set_option maxRecDepth 20000 in
set_option maxHeartbeats 2000000 in
theorem compsRing (hp : HasL10 P) (hg : P 197 = some burinlaw10_CompsRing) : Call P 197 [] H fun o _ => o = .ret (.bool true) := by
  refine call_of hg rfl ?_
  have h0 := Hs.start H
  simp -implicitDefEqProofs -dsimp (disch := omega) only [go_sem, Nat.reduceEqDiff, ↓reduceIte, Nat.reduceAdd, Nat.reduceMul, Nat.reduceSub, Nat.reduceLT, Nat.reduceLeDiff, Int.reduceLT, Int.reduceLE, Int.reduceEq, Int.reduceNeg, Int.reduceAdd, Int.reduceMul, Int.reduceSub, Int.reduceToNat, reduceCtorEq, dec_t, dec_f, ]
  refine white_ct (w := 200) (h := 201) hp.rz h0 (by decide) fun v1 H1 h1 _ => ?_
  obtain ⟨va1, vn1, vc1, ve1, ev1⟩ : ∃ a n c e, v1 = V.sl a n c e := by obtain ⟨vb, kv⟩ := bmV h1; exact ⟨_, _, _, _, kv.val⟩
  have h2 := h1.alloc (l := [.int .i64 200, .int .i64 201, v1])
  subst ev1
  simp -implicitDefEqProofs -dsimp (disch := omega) only [go_sem, Nat.reduceEqDiff, ↓reduceIte, Nat.reduceAdd, Nat.reduceMul, Nat.reduceSub, Nat.reduceLT, Nat.reduceLeDiff, Int.reduceLT, Int.reduceLE, Int.reduceEq, Int.reduceNeg, Int.reduceAdd, Int.reduceMul, Int.reduceSub, Int.reduceToNat, reduceCtorEq, dec_t, dec_f, ]
  generalize H1.new _ = H2 at *
  generalize H1.next = b1 at *
  refine white_ct (w := 150) (h := 150) hp.rz h2 (by decide) fun v2 H3 h3 _ => ?_
  obtain ⟨va2, vn2, vc2, ve2, ev2⟩ : ∃ a n c e, v2 = V.sl a n c e := by obtain ⟨vb, kv⟩ := bmV h3; exact ⟨_, _, _, _, kv.val⟩
  have h4 := h3.alloc (l := [.int .i64 150, .int .i64 150, v2])
  subst ev2
  simp -implicitDefEqProofs -dsimp (disch := omega) only [go_sem, Nat.reduceEqDiff, ↓reduceIte, Nat.reduceAdd, Nat.reduceMul, Nat.reduceSub, Nat.reduceLT, Nat.reduceLeDiff, Int.reduceLT, Int.reduceLE, Int.reduceEq, Int.reduceNeg, Int.reduceAdd, Int.reduceMul, Int.reduceSub, Int.reduceToNat, reduceCtorEq, dec_t, dec_f, ]
  generalize H3.new _ = H4 at *
  generalize H3.next = b2 at *
  refine white_ct (w := 100) (h := 100) hp.rz h4 (by decide) fun v3 H5 h5 _ => ?_
  obtain ⟨va3, vn3, vc3, ve3, ev3⟩ : ∃ a n c e, v3 = V.sl a n c e := by obtain ⟨vb, kv⟩ := bmV h5; exact ⟨_, _, _, _, kv.val⟩
  have h6 := h5.alloc (l := [.int .i64 100, .int .i64 100, v3])
  subst ev3
  simp -implicitDefEqProofs -dsimp (disch := omega) only [go_sem, Nat.reduceEqDiff, ↓reduceIte, Nat.reduceAdd, Nat.reduceMul, Nat.reduceSub, Nat.reduceLT, Nat.reduceLeDiff, Int.reduceLT, Int.reduceLE, Int.reduceEq, Int.reduceNeg, Int.reduceAdd, Int.reduceMul, Int.reduceSub, Int.reduceToNat, reduceCtorEq, dec_t, dec_f, ]
  generalize H5.new _ = H6 at *
  generalize H5.next = b3 at *
  have h6 := h6.p5
  refine rg_l4 (b1 := b1) (b2 := b2) (b3 := b3) hp.rz (by simp) h6 fun H7 ex h7 => ?_
  simp -implicitDefEqProofs -dsimp (disch := omega) only [go_sem, Nat.reduceEqDiff, ↓reduceIte, Nat.reduceAdd, Nat.reduceMul, Nat.reduceSub, Nat.reduceLT, Nat.reduceLeDiff, Int.reduceLT, Int.reduceLE, Int.reduceEq, Int.reduceNeg, Int.reduceAdd, Int.reduceMul, Int.reduceSub, Int.reduceToNat, reduceCtorEq, dec_t, dec_f, ]
  refine rg_l2 (b1 := b1) (b2 := b2) (b3 := b3) hp.rz (by simp) h7.p4 fun H8 ex h8 => ?_
  simp -implicitDefEqProofs -dsimp (disch := omega) only [go_sem, Nat.reduceEqDiff, ↓reduceIte, Nat.reduceAdd, Nat.reduceMul, Nat.reduceSub, Nat.reduceLT, Nat.reduceLeDiff, Int.reduceLT, Int.reduceLE, Int.reduceEq, Int.reduceNeg, Int.reduceAdd, Int.reduceMul, Int.reduceSub, Int.reduceToNat, reduceCtorEq, dec_t, dec_f, ]
  refine rg_l0 (b1 := b1) (b2 := b2) (b3 := b3) hp.rz (by simp) h8.p3 fun H9 ex h9 => ?_
  have r1 := rd_bm h9 (b := b1) (l := [.int .i64 200, .int .i64 201, .sl va1 vn1 vc1 ve1]) (by simp) 3 rfl
  simp -implicitDefEqProofs -dsimp (disch := omega) only [go_sem, Nat.reduceEqDiff, ↓reduceIte, Nat.reduceAdd, Nat.reduceMul, Nat.reduceSub, Nat.reduceLT, Nat.reduceLeDiff, Int.reduceLT, Int.reduceLE, Int.reduceEq, Int.reduceNeg, Int.reduceAdd, Int.reduceMul, Int.reduceSub, Int.reduceToNat, reduceCtorEq, dec_t, dec_f, r1]
  refine ofB (w := 200) (h := 201) (p := snk) hp h9 (by simp) fun o1 P1 HA e1 hA => ?_
  have r1 := rd_bm hA (b := b2) (l := [.int .i64 150, .int .i64 150, .sl va2 vn2 vc2 ve2]) (by simp [StP]) 3 rfl
  simp -implicitDefEqProofs -dsimp (disch := omega) only [go_sem, Nat.reduceEqDiff, ↓reduceIte, Nat.reduceAdd, Nat.reduceMul, Nat.reduceSub, Nat.reduceLT, Nat.reduceLeDiff, Int.reduceLT, Int.reduceLE, Int.reduceEq, Int.reduceNeg, Int.reduceAdd, Int.reduceMul, Int.reduceSub, Int.reduceToNat, reduceCtorEq, dec_t, dec_f, r1]
  refine ofB (w := 150) (h := 150) (p := brd) hp hA (by simp [StP]) fun o2 P2 HB e2 hB => ?_
  have r1 := rd_bm hB (b := b3) (l := [.int .i64 100, .int .i64 100, .sl va3 vn3 vc3 ve3]) (by simp [StP]) 3 rfl
  simp -implicitDefEqProofs -dsimp (disch := omega) only [go_sem, Nat.reduceEqDiff, ↓reduceIte, Nat.reduceAdd, Nat.reduceMul, Nat.reduceSub, Nat.reduceLT, Nat.reduceLeDiff, Int.reduceLT, Int.reduceLE, Int.reduceEq, Int.reduceNeg, Int.reduceAdd, Int.reduceMul, Int.reduceSub, Int.reduceToNat, reduceCtorEq, dec_t, dec_f, r1]
  refine ofB (w := 100) (h := 100) (p := dts) hp hB (by simp [StP]) fun o3 P3 HC e3 hC => ?_
  obtain ⟨S, s1, s2, s3, s4⟩ := snk_pcs
  obtain ⟨B, t1⟩ := brd_pcs
  obtain ⟨d1, D, d2, d3, d4⟩ := dts_pcs
  rw [s1] at e1
  rw [t1] at e2
  obtain ⟨R1, rfl⟩ : ∃ r, P1 = [r] := by
    match P1, congrArg List.length e1 with
    | [a], _ => exact ⟨a, rfl⟩
  obtain ⟨R2, rfl⟩ : ∃ r, P2 = [r] := by
    match P2, congrArg List.length e2 with
    | [a], _ => exact ⟨a, rfl⟩
  have l3 : P3.length = 2500 := by rw [← d1, ← e3, List.length_map]
  have hR1 : R1.p = S := by simpa using e1
  subst hR1
  have h51 : P3[51].p = D := by
    have := congrArg (fun l => l[51]?) e3
    rw [d2, List.getElem?_map, List.getElem?_eq_getElem (by omega)] at this
    simpa using this
  obtain ⟨ya, yo, yc, rfl, y5, y1, y3⟩ := st_at hC.stTail.stTail (i := 0) (by simp)
  obtain ⟨za, zo, zc, rfl, z5, z1, z3⟩ := st_at hC (i := 51) (by omega)
  obtain ⟨wa, wc, we, rfl⟩ := st_shape hC.stTail
  simp only [List.getElem_cons_zero, PcR.toO, PcO.cs, List.getElem?_cons_zero, List.getElem?_cons_succ, Nat.add_zero, Nat.zero_mul] at y3
  rw [s2, s3] at y3
  have c1 := rd_bm hC (b := b1) (l := [.int .i64 200, .int .i64 201, .sl va1 vn1 vc1 ve1]) (by simp [StP]) 3 rfl
  rw [l3]
  simp -implicitDefEqProofs -dsimp (disch := omega) only [go_sem, Nat.reduceEqDiff, ↓reduceIte, Nat.reduceAdd, Nat.reduceMul, Nat.reduceSub, Nat.reduceLT, Nat.reduceLeDiff, Int.reduceLT, Int.reduceLE, Int.reduceEq, Int.reduceNeg, Int.reduceAdd, Int.reduceMul, Int.reduceSub, Int.reduceToNat, reduceCtorEq, dec_t, dec_f, y3, c1, d_gre, List.length_cons, List.length_nil]
  have arrR : Arr HC R1.v 1 (Wds R1.p.w R1.p.h R1.p.p).length (u64s (Wds R1.p.w R1.p.h R1.p.p)) := Hs.bmarr (h := R1.p.h) hC.stTail.stTail (st_bm (List.mem_cons_self ..))
  have arr1 : Arr HC (.sl va1 vn1 vc1 ve1) 1 (Wds 200 201 snk).length (u64s (Wds 200 201 snk)) := Hs.bmarr (w := 200) (h := 201) (p := snk) hC (by simp [StP])
  rw [s4] at arrR
  refine eqb_ct hp.rz hC arrR arr1 (by rw [Wds_length]; decide) fun HD hD _ => ?_
  rw [decide_eq_true ⟨rfl, rfl, rfl⟩]
  obtain ⟨za', zo', zc', ev, z5, z1, z3⟩ := st_at hD (i := 51) (by omega)
  cases ev
  have z0 := z1 0 (by omega)
  have z1 := z1 1 (by omega)
  simp only [PcR.toO, PcO.cs, List.getElem?_cons_zero, List.getElem?_cons_succ, Nat.add_zero, h51, d3, d4] at z0 z1
  simp -implicitDefEqProofs -dsimp (disch := omega) only [go_sem, Nat.reduceEqDiff, ↓reduceIte, Nat.reduceAdd, Nat.reduceMul, Nat.reduceSub, Nat.reduceLT, Nat.reduceLeDiff, Int.reduceLT, Int.reduceLE, Int.reduceEq, Int.reduceNeg, Int.reduceAdd, Int.reduceMul, Int.reduceSub, Int.reduceToNat, reduceCtorEq, dec_t, dec_f, z0, z1, d_gre]
  refine wakes10_ct hp.bm hp.rz hp.ru hp.co hp.w hD fun HE hE => ?_
  simp -implicitDefEqProofs -dsimp (disch := omega) only [go_sem, Nat.reduceEqDiff, ↓reduceIte, Nat.reduceAdd, Nat.reduceMul, Nat.reduceSub, Nat.reduceLT, Nat.reduceLeDiff, Int.reduceLT, Int.reduceLE, Int.reduceEq, Int.reduceNeg, Int.reduceAdd, Int.reduceMul, Int.reduceSub, Int.reduceToNat, reduceCtorEq, dec_t, dec_f, ]
end
theorem law_CompsRing {P : Prog} (hp : HasL10 P) (hg : P 197 = some burinlaw10_CompsRing) (H : Heap) : Call P 197 [] H fun o _ => o = .ret (.bool true) := compsRing hp hg
end Go.Ab
