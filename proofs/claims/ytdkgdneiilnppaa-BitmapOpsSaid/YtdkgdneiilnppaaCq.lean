/- The reference's bitmaps: put, copied, compared. Conditions: none. -/
import Derived.Test.YtdkgdneiilnppaaCp
set_option linter.all false
namespace Go.Ab

theorem getV_pix {w h : Nat} {p : Nat → Nat → Bool} {x y : Int} : getV w h (pixOf w (Wds w h p)) x y = getV w h p x y := by
  unfold getV
  by_cases c : 0 ≤ x ∧ x < w ∧ 0 ≤ y ∧ y < h
  · rw [if_pos c, if_pos c, pixOf_Wds p (by omega) (by omega)]
  · rw [if_neg c, if_neg c]
def SeJ (H : Heap) (x y : V) (bs cs : List Nat) (m : Nat) (fr : Fr) (H' : Heap) : Prop :=
  ∃ i : Nat, m = bs.length - i ∧ i ≤ bs.length ∧ fr = ⟨[(0, x), (1, y), (5, .int .i64 i)], []⟩ ∧ H = H' ∧ bs.take i = cs.take i

section
variable {P : Prog} {H : Heap} {R : List As} {Q : Out → Heap → Prop}

theorem getB_ct (hp : HasRz P) {v : V} {w h : Nat} {p : Nat → Nat → Bool} (hs : Hs H (BmA v w h p :: R)) {x y : Int}
    (hQ : ∀ H', Hs H' (BmA v w h p :: R) → Same (fun _ => False) H H' → Q (.ret (.int .i64 (getV w h p x y : Nat))) H') : Call P 78 [.agg [.int .i64 w, .int .i64 h, v], .int .i64 x, .int .i64 y] H Q := by
  obtain ⟨z1, z2, z3, z4, z5⟩ := bmSz hs
  obtain ⟨b, k⟩ := bmV hs
  refine getR_ct hp hs k.arr (Wds_length _ _ _) (Wds_lt _ _ _) ⟨z1, z4, k.words⟩ fun H' h' s' => ?_
  rw [getV_pix]
  exact hQ H' h' s'

theorem putR_ct (hp : HasRz P) {v : V} {w h : Nat} {p : Nat → Nat → Bool} (hs : Hs H (BmA v w h p :: R)) {x y : Nat} {bit : Int} (hx : x < w) (hy : y < h) (hQ : ∀ H', Hs H' (BmA v w h (updP p x y (decide (bit = 1))) :: R) → Q (.ret (.tup [])) H') : Call P 79 [.agg [.int .i64 w, .int .i64 h, v], .int .i64 x, .int .i64 y, .int .i64 bit] H Q := by
  obtain ⟨z1, z2, z3, z4, z5⟩ := bmSz hs
  have g1 := hs.alloc (l := [.int .i64 w, .int .i64 h, v])
  have s1 : Same (fun _ => False) H (H.new (.cells [.int .i64 w, .int .i64 h, v] true)) := Same.new _ _ _
  refine call_of hp.h_burinref0_Put rfl ?_
  have hc := g1.cel
  simp -implicitDefEqProofs -dsimp (disch := omega) only [go_sem, Nat.reduceEqDiff, ↓reduceIte, Nat.reduceAdd, Nat.reduceMul, Nat.reduceSub, Nat.reduceLT, Nat.reduceLeDiff, Int.reduceLT, Int.reduceLE, Int.reduceEq, Int.reduceNeg, Int.reduceAdd, Int.reduceMul, Int.reduceSub, Int.reduceToNat, reduceCtorEq, dec_t, dec_f, ]
  generalize H.new (.cells [.int .i64 w, .int .i64 h, v] true) = H1 at *
  generalize H.next = bx at *
  obtain ⟨b, k⟩ := bmV g1.p1
  obtain rfl := k.val
  have hi := wds_of hx
  have hidx := word_at hy hi
  have hwd := k.words
  have hyy : y * wds w ≤ h * wds w := Nat.mul_le_mul_right _ (by omega)
  have e1 : (x : Int) / 64 = ((x / 64 : Nat) : Int) := rfl
  have e2 : (x : Int) % 64 = ((x % 64 : Nat) : Int) := rfl
  have e3 : (y : Int) * ((wds w : Nat) : Int) = ((y * wds w : Nat) : Int) := (Int.natCast_mul _ _).symm
  have e4 : 63 - ((x % 64 : Nat) : Int) = ((63 - x % 64 : Nat) : Int) := by omega
  have hwl := word_lt w p y (x / 64)
  have hk := Nat.mod_lt x (show 0 < 64 by omega)
  have hpw := pow_bit hk
  have hup : ∀ bb : Bool, ∀ q : Nat → Nat → Bool, (∀ i j, (i ≠ x ∨ j ≠ y) → q i j = p i j) → ∀ x' y', x' < w → y' < h → (y' ≠ y ∨ x' / 64 ≠ x / 64) → updP p x y bb x' y' = q x' y' := fun bb q hq x' y' _ _ hne => by
    unfold updP
    have hne' : x' ≠ x ∨ y' ≠ y := by rcases hne with h | h; exact Or.inr h; exact Or.inl fun e => h (by rw [e])
    rw [if_neg (by rintro ⟨e', e''⟩; rcases hne' with h | h; exact h e'; exact h e''), hq _ _ hne']
  obtain ⟨H2, hw2, h2, hm2⟩ := k.wr y (x / 64) (dif (word w p y (x / 64)) (2 ^ (63 - x % 64))) (updP p x y false) hy hi (dif_lt hwl) (fun j hj => by
      rw [wb_dif hj, wb_word hj, wb_pow hk hj]
      unfold updP
      by_cases e : j = x % 64
      · rw [decide_eq_true e, if_pos ⟨by omega, rfl⟩]; simp
      · rw [decide_eq_false e, if_neg (by rintro ⟨e', _⟩; omega)]; simp) (hup false p fun _ _ _ => rfl)
  have hne : bx ≠ b := by
    intro e
    obtain ⟨F, h1, _, G, h3, h4, _⟩ := g1
    exact h4 b ((h3.1 b).2 rfl) (Or.inr ((h1.1 b).2 e.symm))
  have hc2 : H2.get bx = .cells [.int .i64 w, .int .i64 h, .sl (some (b, 0)) (h * wds w) (h * wds w) 1] true := (hm2 bx hne).trans hc
  refine words_ct hp (by omega) ?_
  by_cases c : bit = 1
  · subst c
    obtain ⟨b', k2⟩ := bmV h2
    have := k2.val
    cases this
    have hwl2 := word_lt w (updP p x y false) y (x / 64)
    have hor : bitop .or .u64 ((word w (updP p x y false) y (x / 64) : Nat) : Int) ((2 ^ (63 - x % 64) : Nat) : Int) = ((word w (updP p x y false) y (x / 64) ||| 2 ^ (63 - x % 64) : Nat) : Int) := or64 hwl2 hpw
    obtain ⟨H3, hw3, h3, hm3⟩ := k2.wr y (x / 64) (word w (updP p x y false) y (x / 64) ||| 2 ^ (63 - x % 64)) (updP p x y true) hy hi (or_lt hwl2 hpw) (fun j hj => by
        rw [wb_or, wb_word hj, wb_pow hk hj]
        unfold updP
        by_cases e : j = x % 64
        · rw [decide_eq_true e, if_pos ⟨by omega, rfl⟩, if_pos ⟨by omega, rfl⟩, decide_eq_true (by omega)]; simp
        · rw [decide_eq_false e, if_neg (by rintro ⟨e', _⟩; omega), if_neg (by rintro ⟨e', _⟩; omega)]; simp) (hup true _ fun i j hne => by
        unfold updP; rw [if_neg]; rintro ⟨e', e''⟩; rcases hne with h | h; exact h e'; exact h e'')
    simp -implicitDefEqProofs -dsimp (disch := omega) only [go_sem, Nat.reduceEqDiff, ↓reduceIte, Nat.reduceAdd, Nat.reduceMul, Nat.reduceSub, Nat.reduceLT, Nat.reduceLeDiff, Int.reduceLT, Int.reduceLE, Int.reduceEq, Int.reduceNeg, Int.reduceAdd, Int.reduceMul, Int.reduceSub, Int.reduceToNat, reduceCtorEq, dec_t, dec_f, tdivN, tmodN, e1, e2, e3, e4, w64, wu64, cadd, shl1w, rd_s hc, Int.toNat_natCast, Nat.mul_one, k.rd y (x / 64) hy hi, dif64 hwl hpw, hw2, rd_s hc2, k2.rd y (x / 64) hy hi, hor, hw3]
    exact hQ H3 h3.p1.tail
  · rw [decide_eq_false c] at hQ
    simp -implicitDefEqProofs -dsimp (disch := omega) only [go_sem, Nat.reduceEqDiff, ↓reduceIte, Nat.reduceAdd, Nat.reduceMul, Nat.reduceSub, Nat.reduceLT, Nat.reduceLeDiff, Int.reduceLT, Int.reduceLE, Int.reduceEq, Int.reduceNeg, Int.reduceAdd, Int.reduceMul, Int.reduceSub, Int.reduceToNat, reduceCtorEq, dec_t, dec_f, tdivN, tmodN, e1, e2, e3, e4, w64, wu64, cadd, shl1w, rd_s hc, Int.toNat_natCast, Nat.mul_one, k.rd y (x / 64) hy hi, dif64 hwl hpw, hw2]
    exact hQ H2 h2.p1.tail

theorem copyR_ct (hp : HasRz P) (hs : Hs H R) {w h : Int} {v : V} {ws : List Nat} (hv : Arr H v 1 ws.length (u64s ws)) (hl : ws.length ≤ 17592186040000)
    (hQ : ∀ v' H', Hs H' (Lst v' 1 ws.length (u64s ws) :: R) → Same (fun _ => False) H H' → Q (.ret (.agg [.int .i64 w, .int .i64 h, v'])) H') : Call P 82 [.agg [.int .i64 w, .int .i64 h, v]] H Q := by
  obtain ⟨a, c, e', rfl⟩ := hv.shape
  refine call_of hp.h_burinref0_CopyBitmap rfl ?_
  have g1 := hs.alloc (l := [.int .i64 w, .int .i64 h, .sl a ws.length c e'])
  have s1 : Same (fun _ => False) H (H.new (.cells [.int .i64 w, .int .i64 h, .sl a ws.length c e'] true)) := Same.new _ _ _
  have g2 := g1.alloc (l := [.int .i64 0, .int .i64 0, .sl none 0 0 0])
  have s2 := s1.trans (Same.new (fun _ => False) _ (.cells [.int .i64 0, .int .i64 0, .sl none 0 0 0] true)) fun _ _ h => h
  have hc := g2.p1.cel
  obtain ⟨v', H3, a3, o3, s3, f3⟩ := app_nil (eb := 8) (firsts_arr (hv.same s2 fun _ _ h => h)) (by simp [u64s]) (u64s_one ws) (by omega)
  have g3 := g2.lst s3 o3 f3
  obtain ⟨a4, c4, e4, rfl⟩ := o3.arr.shape
  simp -implicitDefEqProofs -dsimp (disch := omega) only [go_sem, Nat.reduceEqDiff, ↓reduceIte, Nat.reduceAdd, Nat.reduceMul, Nat.reduceSub, Nat.reduceLT, Nat.reduceLeDiff, Int.reduceLT, Int.reduceLE, Int.reduceEq, Int.reduceNeg, Int.reduceAdd, Int.reduceMul, Int.reduceSub, Int.reduceToNat, reduceCtorEq, dec_t, dec_f, a3]
  refine aft_intro (by simp [rechecks, recheck, fresh, Fr.get, look, step, opd, rd_s (g3.p2.cel)]) ?_
  have hc3 := g3.p1.cel
  rw [next_new] at hc3
  simp -implicitDefEqProofs -dsimp (disch := omega) only [go_sem, Nat.reduceEqDiff, ↓reduceIte, Nat.reduceAdd, Nat.reduceMul, Nat.reduceSub, Nat.reduceLT, Nat.reduceLeDiff, Int.reduceLT, Int.reduceLE, Int.reduceEq, Int.reduceNeg, Int.reduceAdd, Int.reduceMul, Int.reduceSub, Int.reduceToNat, reduceCtorEq, dec_t, dec_f, wr_s hc3]
  have g4 := g3.p1.put (l' := [.int .i64 w, .int .i64 h, .sl a4 ws.length c4 e4])
  rw [next_new] at g4
  rw [rd_m g4.cel]
  simp -implicitDefEqProofs -dsimp (disch := omega) only [go_sem, Nat.reduceEqDiff, ↓reduceIte, Nat.reduceAdd, Nat.reduceMul, Nat.reduceSub, Nat.reduceLT, Nat.reduceLeDiff, Int.reduceLT, Int.reduceLE, Int.reduceEq, Int.reduceNeg, Int.reduceAdd, Int.reduceMul, Int.reduceSub, Int.reduceToNat, reduceCtorEq, dec_t, dec_f, ]
  exact hQ _ _ (g4.p1.p1.tail.p1.tail) ((s2.trans s3 fun _ _ h => h).trans (Same.put (S := fun x => x = H.next + 1) rfl) fun x hx e => by have : x = H.next + 1 := e; omega)

theorem eqw_ct (hp : HasRz P) {x y : V} {bs cs : List Nat} (hx : Arr H x 1 bs.length (u64s bs)) (hy : Arr H y 1 cs.length (u64s cs)) (hl : bs.length ≤ 281474976710656) (hQ : Q (.ret (.bool (decide (bs = cs)))) H) : Call P 83 [x, y] H Q := by
  obtain ⟨a1, c1, e1, rfl⟩ := hx.shape
  obtain ⟨a2, c2, e2, rfl⟩ := hy.shape
  refine call_of hp.h_burinref0_EqWords rfl ?_
  by_cases hlen : bs.length = cs.length
  · simp -implicitDefEqProofs -dsimp (disch := omega) only [go_sem, Nat.reduceEqDiff, ↓reduceIte, Nat.reduceAdd, Nat.reduceMul, Nat.reduceSub, Nat.reduceLT, Nat.reduceLeDiff, Int.reduceLT, Int.reduceLE, Int.reduceEq, Int.reduceNeg, Int.reduceAdd, Int.reduceMul, Int.reduceSub, Int.reduceToNat, reduceCtorEq, dec_t, dec_f, ]
    refine loop_inv (SeJ H _ _ bs cs) ?_ bs.length _ _ ⟨0, by omega, by omega, rfl, rfl, by simp⟩
    rintro m2 fr H1 ⟨i, hm, hi, rfl, rfl, ht⟩
    generalize hK : rnd (SeJ H _ _ bs cs) m2 = K
    by_cases hib : i < bs.length
    · have hic : i < cs.length := by omega
      obtain ⟨b3, o3, c3, hv3, hr3⟩ := arr_u64 hx hib
      obtain ⟨b4, o4, c4, hv4, hr4⟩ := arr_u64 hy hic
      cases hv3; cases hv4
      by_cases he : bs[i] = cs[i]
      · simp -implicitDefEqProofs -dsimp (disch := omega) only [go_sem, Nat.reduceEqDiff, ↓reduceIte, Nat.reduceAdd, Nat.reduceMul, Nat.reduceSub, Nat.reduceLT, Nat.reduceLeDiff, Int.reduceLT, Int.reduceLE, Int.reduceEq, Int.reduceNeg, Int.reduceAdd, Int.reduceMul, Int.reduceSub, Int.reduceToNat, reduceCtorEq, dec_t, dec_f, burinref0_EqWords_l0, Int.toNat_natCast, Nat.mul_one, hr3, hr4, w64, cadd1]
        subst hK
        refine rnd_n (bs.length - (i + 1)) (by omega) ⟨i + 1, rfl, by omega, rfl, rfl, ?_⟩
        rw [List.take_succ_eq_append_getElem hib, List.take_succ_eq_append_getElem hic, ht, he]
      · have hne : ¬ ((bs[i] : Nat) : Int) = ((cs[i] : Nat) : Int) := by omega
        simp -implicitDefEqProofs -dsimp (disch := omega) only [go_sem, Nat.reduceEqDiff, ↓reduceIte, Nat.reduceAdd, Nat.reduceMul, Nat.reduceSub, Nat.reduceLT, Nat.reduceLeDiff, Int.reduceLT, Int.reduceLE, Int.reduceEq, Int.reduceNeg, Int.reduceAdd, Int.reduceMul, Int.reduceSub, Int.reduceToNat, reduceCtorEq, dec_t, dec_f, burinref0_EqWords_l0, Int.toNat_natCast, Nat.mul_one, hr3, hr4]
        subst hK
        simp -implicitDefEqProofs -dsimp (disch := omega) only [go_sem, Nat.reduceEqDiff, ↓reduceIte, Nat.reduceAdd, Nat.reduceMul, Nat.reduceSub, Nat.reduceLT, Nat.reduceLeDiff, Int.reduceLT, Int.reduceLE, Int.reduceEq, Int.reduceNeg, Int.reduceAdd, Int.reduceMul, Int.reduceSub, Int.reduceToNat, reduceCtorEq, dec_t, dec_f, ]
        rw [show decide (bs = cs) = false from decide_eq_false fun e => he (by subst e; rfl)] at hQ
        exact hQ
    · obtain rfl : i = bs.length := by omega
      simp -implicitDefEqProofs -dsimp (disch := omega) only [go_sem, Nat.reduceEqDiff, ↓reduceIte, Nat.reduceAdd, Nat.reduceMul, Nat.reduceSub, Nat.reduceLT, Nat.reduceLeDiff, Int.reduceLT, Int.reduceLE, Int.reduceEq, Int.reduceNeg, Int.reduceAdd, Int.reduceMul, Int.reduceSub, Int.reduceToNat, reduceCtorEq, dec_t, dec_f, burinref0_EqWords_l0]
      subst hK
      simp -implicitDefEqProofs -dsimp (disch := omega) only [go_sem, Nat.reduceEqDiff, ↓reduceIte, Nat.reduceAdd, Nat.reduceMul, Nat.reduceSub, Nat.reduceLT, Nat.reduceLeDiff, Int.reduceLT, Int.reduceLE, Int.reduceEq, Int.reduceNeg, Int.reduceAdd, Int.reduceMul, Int.reduceSub, Int.reduceToNat, reduceCtorEq, dec_t, dec_f, ]
      have e : bs = cs := by rw [List.take_length, hlen, List.take_length] at ht; exact ht
      rw [show decide (bs = cs) = true from decide_eq_true e] at hQ
      exact hQ
  · simp -implicitDefEqProofs -dsimp (disch := omega) only [go_sem, Nat.reduceEqDiff, ↓reduceIte, Nat.reduceAdd, Nat.reduceMul, Nat.reduceSub, Nat.reduceLT, Nat.reduceLeDiff, Int.reduceLT, Int.reduceLE, Int.reduceEq, Int.reduceNeg, Int.reduceAdd, Int.reduceMul, Int.reduceSub, Int.reduceToNat, reduceCtorEq, dec_t, dec_f, ]
    rw [show decide (bs = cs) = false from decide_eq_false fun e => hlen (by rw [e])] at hQ
    exact hQ

theorem eqb_ct (hp : HasRz P) (hs : Hs H R) {w1 h1 w2 h2 : Int} {v1 v2 : V} {bs cs : List Nat} (hx : Arr H v1 1 bs.length (u64s bs)) (hy : Arr H v2 1 cs.length (u64s cs)) (hl : bs.length ≤ 281474976710656)
    (hQ : ∀ H', Hs H' R → Same (fun _ => False) H H' → Q (.ret (.bool (decide (w1 = w2 ∧ h1 = h2 ∧ bs = cs)))) H') : Call P 84 [.agg [.int .i64 w1, .int .i64 h1, v1], .agg [.int .i64 w2, .int .i64 h2, v2]] H Q := by
  obtain ⟨a1, c1, e1, rfl⟩ := hx.shape
  obtain ⟨a2, c2, e2, rfl⟩ := hy.shape
  refine call_of hp.h_burinref0_EqBitmap rfl ?_
  have g1 := hs.alloc (l := [.int .i64 w1, .int .i64 h1, .sl a1 bs.length c1 e1])
  have s1 : Same (fun _ => False) H (H.new (.cells [.int .i64 w1, .int .i64 h1, .sl a1 bs.length c1 e1] true)) := Same.new _ _ _
  have g2 := g1.alloc (l := [.int .i64 w2, .int .i64 h2, .sl a2 cs.length c2 e2])
  have s2 := s1.trans (Same.new (fun _ => False) _ (.cells [.int .i64 w2, .int .i64 h2, .sl a2 cs.length c2 e2] true)) fun _ _ h => h
  by_cases d1 : w1 = w2
  · by_cases d2 : h1 = h2
    · simp -implicitDefEqProofs -dsimp (disch := omega) only [go_sem, Nat.reduceEqDiff, ↓reduceIte, Nat.reduceAdd, Nat.reduceMul, Nat.reduceSub, Nat.reduceLT, Nat.reduceLeDiff, Int.reduceLT, Int.reduceLE, Int.reduceEq, Int.reduceNeg, Int.reduceAdd, Int.reduceMul, Int.reduceSub, Int.reduceToNat, reduceCtorEq, dec_t, dec_f, ]
      refine eqw_ct hp (hx.same s2 fun _ _ h => h) (hy.same s2 fun _ _ h => h) hl ?_
      simp -implicitDefEqProofs -dsimp (disch := omega) only [go_sem, Nat.reduceEqDiff, ↓reduceIte, Nat.reduceAdd, Nat.reduceMul, Nat.reduceSub, Nat.reduceLT, Nat.reduceLeDiff, Int.reduceLT, Int.reduceLE, Int.reduceEq, Int.reduceNeg, Int.reduceAdd, Int.reduceMul, Int.reduceSub, Int.reduceToNat, reduceCtorEq, dec_t, dec_f, ]
      have := hQ _ g2.tail.tail s2
      by_cases d3 : bs = cs
      · rw [decide_eq_true d3]; rwa [decide_eq_true ⟨d1, d2, d3⟩] at this
      · rw [decide_eq_false d3]; rwa [decide_eq_false (fun e => d3 e.2.2)] at this
    · have := hQ _ g2.tail.tail s2
      rw [decide_eq_false (fun e => d2 e.2.1)] at this
      simp -implicitDefEqProofs -dsimp (disch := omega) only [go_sem, Nat.reduceEqDiff, ↓reduceIte, Nat.reduceAdd, Nat.reduceMul, Nat.reduceSub, Nat.reduceLT, Nat.reduceLeDiff, Int.reduceLT, Int.reduceLE, Int.reduceEq, Int.reduceNeg, Int.reduceAdd, Int.reduceMul, Int.reduceSub, Int.reduceToNat, reduceCtorEq, dec_t, dec_f, ]
      exact this
  · have := hQ _ g2.tail.tail s2
    rw [decide_eq_false (fun e => d1 e.1)] at this
    simp -implicitDefEqProofs -dsimp (disch := omega) only [go_sem, Nat.reduceEqDiff, ↓reduceIte, Nat.reduceAdd, Nat.reduceMul, Nat.reduceSub, Nat.reduceLT, Nat.reduceLeDiff, Int.reduceLT, Int.reduceLE, Int.reduceEq, Int.reduceNeg, Int.reduceAdd, Int.reduceMul, Int.reduceSub, Int.reduceToNat, reduceCtorEq, dec_t, dec_f, ]
    exact this
end
end Go.Ab
