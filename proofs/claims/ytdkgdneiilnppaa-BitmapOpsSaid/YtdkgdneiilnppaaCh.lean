/- Rectangles cut to a map; filled. Conditions: none. -/
import Derived.Test.YtdkgdneiilnppaaCg
set_option linter.all false
namespace Go.Ab

def cutS (off n size : Int) : Int × Int := if n ≤ 0 ∨ size ≤ off ∨ off ≤ -n then (0, 0) else if 0 ≤ off then (0, min n (size - off)) else (-off, min (n + off) size)
theorem cutS_spec {off n size i : Int} (hs : 0 ≤ size) : (0 ≤ i ∧ i < n ∧ 0 ≤ off + i ∧ off + i < size) ↔ ((cutS off n size).1 ≤ i ∧ i < (cutS off n size).1 + (cutS off n size).2) := by
  unfold cutS
  split
  · dsimp only; omega
  · split <;> dsimp only <;> omega
theorem cutS_rng {off n size : Int} (hs : 1 ≤ size) : 0 ≤ (cutS off n size).1 ∧ 0 ≤ (cutS off n size).2 ∧ (cutS off n size).2 ≤ size ∧ ((cutS off n size).2 ≠ 0 → 0 ≤ off + (cutS off n size).1 ∧ off + (cutS off n size).1 + (cutS off n size).2 ≤ size ∧ (cutS off n size).1 + (cutS off n size).2 ≤ n) ∧
    ((cutS off n size).2 = 0 → (cutS off n size).1 = 0) := by
  unfold cutS
  split
  · dsimp only; omega
  · split <;> dsimp only <;> omega
theorem cutS_lt {off n size : Int} (h : (cutS off n size).1 ≠ 0) : (cutS off n size).1 = -off ∧ off < 0 := by
  revert h
  unfold cutS
  split
  · intro h; exact absurd rfl h
  · split
    · intro h; exact absurd rfl h
    · intro _; dsimp only; omega
theorem mm_min (a b : Int) : (if b < a then b else a) = min a b := by omega
theorem mm_max (a b : Int) : (if b > a then b else a) = max a b := by omega

/-- A mask's word. -/
def maskN (f t : Nat) : Nat := dif (18446744073709551615 / 2 ^ f) (18446744073709551615 / 2 ^ t)
theorem maskN_lt (f t : Nat) : maskN f t < 18446744073709551616 := dif_lt (shr_lt (by omega))
theorem wb_maskN {f t k : Nat} (hk : k < 64) : wb (maskN f t) k = decide (f ≤ k ∧ k < t) := by
  unfold maskN
  rw [wb_dif hk, wb_shr (by omega) hk, wb_shr (by omega) hk]
  by_cases h1 : f ≤ k
  · by_cases h2 : t ≤ k
    · rw [decide_eq_true h1, decide_eq_true h2, wb_ones (by omega), wb_ones (by omega)]; simp; omega
    · rw [decide_eq_true h1, decide_eq_false h2, wb_ones (by omega)]; simp; omega
  · rw [decide_eq_false h1]; simp; omega

section
variable {P : Prog} {H : Heap} {R : List As} {Q : Out → Heap → Prop} {m w h : Nat} {p : Nat → Nat → Bool}

theorem cut_ct (hp : HasBm P) {off n size : Int} (ho : -9223372036854775808 ≤ off ∧ off ≤ 9223372036854775807) (hn : -9223372036854775808 ≤ n ∧ n ≤ 9223372036854775807) (hs : 0 ≤ size ∧ size ≤ 1048576)
    (hQ : Q (.ret (.tup [.int .i64 (cutS off n size).1, .int .i64 (cutS off n size).2])) H) : Call P 53 [.int .i64 off, .int .i64 n, .int .i64 size] H Q := by
  refine call_of hp.h_bitmap_cut rfl ?_
  unfold cutS at hQ
  by_cases c1 : n ≤ 0 ∨ size ≤ off ∨ off ≤ -n
  · rw [if_pos c1] at hQ
    rcases (show n ≤ 0 ∨ (0 < n ∧ size ≤ off) ∨ (0 < n ∧ off < size ∧ off ≤ -n) by omega) with d | d | d <;>
    · simp -implicitDefEqProofs -dsimp (disch := omega) only [go_sem, Nat.reduceEqDiff, ↓reduceIte, Nat.reduceAdd, Nat.reduceMul, Nat.reduceSub, Nat.reduceLT, Nat.reduceLeDiff, Int.reduceLT, Int.reduceLE, Int.reduceEq, Int.reduceNeg, Int.reduceAdd, Int.reduceMul, Int.reduceSub, Int.reduceToNat, reduceCtorEq, dec_t, dec_f, w64]; exact hQ
  · rw [if_neg c1] at hQ
    have en : IntKind.wrap .i64 (0 - n) = -n := by rw [w64 (by omega)]; omega
    have eo : off < 0 → IntKind.wrap .i64 (0 - off) = -off := fun h => by rw [w64 (by omega)]; omega
    by_cases c2 : 0 ≤ off
    · rw [if_pos c2] at hQ
      simp -implicitDefEqProofs -dsimp (disch := omega) only [go_sem, Nat.reduceEqDiff, ↓reduceIte, Nat.reduceAdd, Nat.reduceMul, Nat.reduceSub, Nat.reduceLT, Nat.reduceLeDiff, Int.reduceLT, Int.reduceLE, Int.reduceEq, Int.reduceNeg, Int.reduceAdd, Int.reduceMul, Int.reduceSub, Int.reduceToNat, reduceCtorEq, dec_t, dec_f, w64, en, mm_min]; exact hQ
    · rw [if_neg c2] at hQ
      simp -implicitDefEqProofs -dsimp (disch := omega) only [go_sem, Nat.reduceEqDiff, ↓reduceIte, Nat.reduceAdd, Nat.reduceMul, Nat.reduceSub, Nat.reduceLT, Nat.reduceLeDiff, Int.reduceLT, Int.reduceLE, Int.reduceEq, Int.reduceNeg, Int.reduceAdd, Int.reduceMul, Int.reduceSub, Int.reduceToNat, reduceCtorEq, dec_t, dec_f, w64, en, eo (by omega), mm_min]; exact hQ

theorem mask_ct (hp : HasBm P) {i x n : Nat} (h1 : x / 64 ≤ i) (h2 : i ≤ (x + n - 1) / 64) (hn : 1 ≤ n) (hb : x + n ≤ 1099511627776) (hQ : Q (.ret (.int .u64 (maskN (x - 64 * i) (min (x + n - 64 * i) 64) : Nat))) H) :
    Call P 55 [.int .i64 i, .int .i64 x, .int .i64 n] H Q := by
  refine call_of hp.h_bitmap_mask rfl ?_
  have e1 : (64 : Int) * i = ((64 * i : Nat) : Int) := by omega
  have e2 : max ((x : Int) - ((64 * i : Nat) : Int)) 0 = ((x - 64 * i : Nat) : Int) := by omega
  have e3 : min ((x : Int) + n - ((64 * i : Nat) : Int)) 64 = ((min (x + n - 64 * i) 64 : Nat) : Int) := by omega
  simp -implicitDefEqProofs -dsimp (disch := omega) only [go_sem, Nat.reduceEqDiff, ↓reduceIte, Nat.reduceAdd, Nat.reduceMul, Nat.reduceSub, Nat.reduceLT, Nat.reduceLeDiff, Int.reduceLT, Int.reduceLE, Int.reduceEq, Int.reduceNeg, Int.reduceAdd, Int.reduceMul, Int.reduceSub, Int.reduceToNat, reduceCtorEq, dec_t, dec_f, w64, e1, mm_max, mm_min, e2, e3, shr_ones, dif64, shr_lt]
  rw [dif64 (shr_lt (by omega)) (shr_lt (by omega))]
  exact hQ

/-- Pixels of a rectangle. -/
def fillP (p : Nat → Nat → Bool) (x y w h : Int) (b : Bool) : Nat → Nat → Bool := fun i j => if x ≤ i ∧ (i : Int) < x + w ∧ y ≤ j ∧ (j : Int) < y + h then b else p i j
def fillR (w h bit : Int) : Int := if w < 0 ∨ h < 0 then 24 else if bit = 0 ∨ bit = 1 then 0 else 23
/-- Rows y to j are filled, of row j the words up to i. -/
def partP (p : Nat → Nat → Bool) (x y n j i : Nat) (b : Bool) : Nat → Nat → Bool := fun i' j' => if x ≤ i' ∧ i' < x + n ∧ ((y ≤ j' ∧ j' < j) ∨ (j' = j ∧ i' / 64 < i)) then b else p i' j'

def FiI (m w h : Nat) (p : Nat → Nat → Bool) (R : List As) (x y n hi : Nat) (b : Bool) (k : Nat) (fr : Fr) (H : Heap) : Prop :=
  ∃ j : Nat, k = y + hi - j ∧ y ≤ j ∧ j ≤ y + hi ∧ fr = ⟨[(0, .ptr (some (m, 0))), (1, .int .i64 x), (2, .int .i64 y), (5, .int .i64 (b.toNat : Nat)), (14, .int .i64 n), (15, .int .i64 hi), (16, .int .i64 j)], []⟩ ∧ Hs H (MapA m w h (partP p x y n j 0 b) :: R)
def FiJ (m w h : Nat) (p : Nat → Nat → Bool) (R : List As) (x y n hi j : Nat) (b : Bool) (k : Nat) (fr : Fr) (H : Heap) : Prop :=
  ∃ i : Nat, k = (x + n - 1) / 64 + 1 - i ∧ x / 64 ≤ i ∧ i ≤ (x + n - 1) / 64 + 1 ∧ fr = ⟨[(0, .ptr (some (m, 0))), (1, .int .i64 x), (2, .int .i64 y), (5, .int .i64 (b.toNat : Nat)), (14, .int .i64 n), (15, .int .i64 hi), (16, .int .i64 j), (17, .int .i64 i)], []⟩ ∧ Hs H (MapA m w h (partP p x y n j i b) :: R)

/-- The word behind a fill. -/
theorem fill_word {w h : Nat} {p : Nat → Nat → Bool} {x y n j i : Nat} {b : Bool} (hj : y ≤ j) (k : Nat) (hk : k < 64) (hxw : x + n ≤ w) :
    (if decide (x - 64 * i ≤ k ∧ k < min (x + n - 64 * i) 64) = true then b else wb (word w (partP p x y n j i b) j i) k) = (decide (64 * i + k < w) && partP p x y n j (i + 1) b (64 * i + k) j) := by
  rw [wb_word hk]
  unfold partP
  by_cases c : x ≤ 64 * i + k ∧ 64 * i + k < x + n
  · have c1 : decide (x - 64 * i ≤ k ∧ k < min (x + n - 64 * i) 64) = true := decide_eq_true (by omega)
    have c2 : decide (64 * i + k < w) = true := decide_eq_true (by omega)
    rw [if_pos c1, c2, Bool.true_and, if_pos ⟨c.1, c.2, Or.inr ⟨rfl, by omega⟩⟩]
  · have c1 : ¬ decide (x - 64 * i ≤ k ∧ k < min (x + n - 64 * i) 64) = true := fun e => c (by have := of_decide_eq_true e; omega)
    rw [if_neg c1, if_neg (fun e => c ⟨e.1, e.2.1⟩), if_neg (fun e => c ⟨e.1, e.2.1⟩)]

theorem fill_in (hp : HasBm P) {x y n hi : Nat} {bb : Bool} (hs : Hs H (MapA m w h p :: R)) (hn : 1 ≤ n) (hh : 1 ≤ hi) (hx : x + n ≤ w) (hy : y + hi ≤ h) {Qp : Post}
    (hQ : ∀ fr H', fr.ds = [] → Hs H' (MapA m w h (fillP p x y n hi bb) :: R) → Qp (.exit 1) fr H') {s t} :
    loopL (Call P) [0, 1, 2, 5, 14, 15, 16] bitmap_Map_Fill_l0 Qp s t ⟨[(0, .ptr (some (m, 0))), (1, .int .i64 x), (2, .int .i64 y), (5, .int .i64 (bb.toNat : Nat)), (14, .int .i64 n), (15, .int .i64 hi), (16, .int .i64 y)], []⟩ H := by
  obtain ⟨b0, k0⟩ := mapV hs
  have hwl := k0.words
  have hwa : w ≤ 1048576 := by have := k0.area; have := k0.h1; have := Nat.le_mul_of_pos_right w (show 0 < h by omega); omega
  have hha : h ≤ 1048576 := by have := k0.area; have := k0.w1; have := Nat.le_mul_of_pos_left h (show 0 < w by omega); omega
  clear k0
  have hstart : partP p x y n y 0 bb = p := by
    funext i j; unfold partP; rw [if_neg (by omega)]
  refine loop_inv (FiI m w h p R x y n hi bb) ?_ hi _ _ ⟨y, by omega, by omega, by omega, rfl, by rw [hstart]; exact hs⟩
  rintro k fr H1 ⟨j, hk, hj, hj2, rfl, h1⟩
  generalize hK : rnd (FiI m w h p R x y n hi bb) k = K
  by_cases hjl : j < y + hi
  · have ex : (x : Int) / 64 = ((x / 64 : Nat) : Int) := rfl
    simp -implicitDefEqProofs -dsimp (disch := omega) only [go_sem, Nat.reduceEqDiff, ↓reduceIte, Nat.reduceAdd, Nat.reduceMul, Nat.reduceSub, Nat.reduceLT, Nat.reduceLeDiff, Int.reduceLT, Int.reduceLE, Int.reduceEq, Int.reduceNeg, Int.reduceAdd, Int.reduceMul, Int.reduceSub, Int.reduceToNat, reduceCtorEq, dec_t, dec_f, bitmap_Map_Fill_l0, w64, tdivN, ex]
    refine loop_inv (FiJ m w h p R x y n hi j bb) ?_ _ _ _ ⟨x / 64, rfl, by omega, by omega, rfl, by
      have e : partP p x y n j (x / 64) bb = partP p x y n j 0 bb := by
        funext i' j'
        unfold partP
        by_cases c : x ≤ i' ∧ i' < x + n ∧ ((y ≤ j' ∧ j' < j) ∨ (j' = j ∧ i' / 64 < 0))
        · rw [if_pos c, if_pos (by omega)]
        · rw [if_neg c, if_neg (fun e => c ⟨e.1, e.2.1, e.2.2.imp id fun e => ⟨e.1, by omega⟩⟩)]
      rw [e]; exact h1⟩
    rintro k2 fr2 H2 ⟨i, hk2, hi1, hi2, rfl, h2⟩
    generalize hK2 : rnd (FiJ m w h p R x y n hi j bb) k2 = K2
    have ex2 : ((x : Int) + n - 1) / 64 = (((x + n - 1) / 64 : Nat) : Int) := by omega
    by_cases hil : i ≤ (x + n - 1) / 64
    · obtain ⟨b, kv⟩ := mapV h2
      have hiw : i < wds w := by unfold wds; omega
      have hidx := word_at (show j < h by omega) hiw
      have hjj : j * wds w ≤ h * wds w := Nat.mul_le_mul_right _ (by omega)
      have e3 : (j : Int) * ((wds w : Nat) : Int) = ((j * wds w : Nat) : Int) := (Int.natCast_mul _ _).symm
      have hr := kv.rd j i (by omega) hiw
      have hW := word_lt w (partP p x y n j i bb) j i
      have hm := maskN_lt (x - 64 * i) (min (x + n - 64 * i) 64)
      -- first the word without the mask
      let q1 : Nat → Nat → Bool := fun i' j' => if j' = j ∧ i' / 64 = i ∧ x ≤ i' ∧ i' < x + n then false else partP p x y n j i bb i' j'
      obtain ⟨H3, hw3, h3, hm3⟩ := kv.wr j i (dif (word w (partP p x y n j i bb) j i) (maskN (x - 64 * i) (min (x + n - 64 * i) 64))) q1 (by omega) hiw (dif_lt hW) (fun k hk => by
          rw [wb_dif hk, wb_maskN hk, wb_word hk]
          show _ = (decide (64 * i + k < w) && (if j = j ∧ (64 * i + k) / 64 = i ∧ x ≤ 64 * i + k ∧ 64 * i + k < x + n then false else partP p x y n j i bb (64 * i + k) j))
          by_cases c : x ≤ 64 * i + k ∧ 64 * i + k < x + n
          · rw [decide_eq_true (show x - 64 * i ≤ k ∧ k < min (x + n - 64 * i) 64 by omega), if_pos ⟨rfl, by omega, c.1, c.2⟩]; simp
          · rw [decide_eq_false (show ¬ (x - 64 * i ≤ k ∧ k < min (x + n - 64 * i) 64) by omega), if_neg (fun e => c ⟨e.2.2.1, e.2.2.2⟩)]; simp) (fun x' y' _ _ hne => by
          show (if y' = j ∧ x' / 64 = i ∧ x ≤ x' ∧ x' < x + n then false else partP p x y n j i bb x' y') = _
          rw [if_neg]; rintro ⟨e1, e2, _⟩; rcases hne with h | h; exact h e1; exact h e2)
      have c3 : H3.get m = _ := hm3.trans kv.cell
      simp -implicitDefEqProofs -dsimp (disch := omega) only [go_sem, Nat.reduceEqDiff, ↓reduceIte, Nat.reduceAdd, Nat.reduceMul, Nat.reduceSub, Nat.reduceLT, Nat.reduceLeDiff, Int.reduceLT, Int.reduceLE, Int.reduceEq, Int.reduceNeg, Int.reduceAdd, Int.reduceMul, Int.reduceSub, Int.reduceToNat, reduceCtorEq, dec_t, dec_f, bitmap_Map_Fill_l1, w64, tdivN, ex2, rd_s kv.cell, e3, cadd, Int.toNat_natCast, Nat.mul_one, hr]
      refine mask_ct hp (by omega) hil (by omega) (by omega) ?_
      simp -implicitDefEqProofs -dsimp (disch := omega) only [go_sem, Nat.reduceEqDiff, ↓reduceIte, Nat.reduceAdd, Nat.reduceMul, Nat.reduceSub, Nat.reduceLT, Nat.reduceLeDiff, Int.reduceLT, Int.reduceLE, Int.reduceEq, Int.reduceNeg, Int.reduceAdd, Int.reduceMul, Int.reduceSub, Int.reduceToNat, reduceCtorEq, dec_t, dec_f, ]
      refine aft_intro (by simp [rechecks, recheck, fresh, Fr.get, look, step, opd, rd_s kv.cell, hr]) ?_
      simp -implicitDefEqProofs -dsimp (disch := omega) only [go_sem, Nat.reduceEqDiff, ↓reduceIte, Nat.reduceAdd, Nat.reduceMul, Nat.reduceSub, Nat.reduceLT, Nat.reduceLeDiff, Int.reduceLT, Int.reduceLE, Int.reduceEq, Int.reduceNeg, Int.reduceAdd, Int.reduceMul, Int.reduceSub, Int.reduceToNat, reduceCtorEq, dec_t, dec_f, dif64 hW hm, Int.toNat_natCast, Nat.mul_one, hw3]
      obtain ⟨b', kv'⟩ := mapV h3
      have hbb : b' = b := by have := kv'.cell; rw [c3] at this; cases this; rfl
      subst hbb
      have hr' := kv'.rd j i (by omega) hiw
      cases bb with
      | false =>
        have e1 : q1 = partP p x y n j (i + 1) false := by
          funext i' j'
          show (if j' = j ∧ i' / 64 = i ∧ x ≤ i' ∧ i' < x + n then false else partP p x y n j i false i' j') = _
          unfold partP
          by_cases c : j' = j ∧ i' / 64 = i ∧ x ≤ i' ∧ i' < x + n
          · rw [if_pos c, if_pos ⟨c.2.2.1, c.2.2.2, Or.inr ⟨c.1, by omega⟩⟩]
          · rw [if_neg c]
            by_cases d : x ≤ i' ∧ i' < x + n ∧ ((y ≤ j' ∧ j' < j) ∨ (j' = j ∧ i' / 64 < i))
            · rw [if_pos d, if_pos (by omega)]
            · rw [if_neg d, if_neg (by omega)]
        rw [e1] at h3
        simp -implicitDefEqProofs -dsimp (disch := omega) only [go_sem, Nat.reduceEqDiff, ↓reduceIte, Nat.reduceAdd, Nat.reduceMul, Nat.reduceSub, Nat.reduceLT, Nat.reduceLeDiff, Int.reduceLT, Int.reduceLE, Int.reduceEq, Int.reduceNeg, Int.reduceAdd, Int.reduceMul, Int.reduceSub, Int.reduceToNat, reduceCtorEq, dec_t, dec_f, w64, cadd1, show ((false.toNat : Nat) : Int) = 0 from rfl]
        subst hK2
        exact rnd_n ((x + n - 1) / 64 + 1 - (i + 1)) (by omega) ⟨i + 1, rfl, by omega, by omega, rfl, h3⟩
      | true =>
        have hW' := word_lt w q1 j i
        have hor : bitop .or .u64 ((word w q1 j i : Nat) : Int) ((maskN (x - 64 * i) (min (x + n - 64 * i) 64) : Nat) : Int) = ((word w q1 j i ||| maskN (x - 64 * i) (min (x + n - 64 * i) 64) : Nat) : Int) := or64 hW' hm
        obtain ⟨H4, hw4, h4, hm4⟩ := kv'.wr j i (word w q1 j i ||| maskN (x - 64 * i) (min (x + n - 64 * i) 64)) (partP p x y n j (i + 1) true) (by omega) hiw (or_lt hW' hm) (fun k hk => by
            rw [wb_or, wb_maskN hk, ← fill_word (h := h) hj k hk hx, wb_word hk, wb_word hk]
            show (decide (64 * i + k < w) && (if j = j ∧ (64 * i + k) / 64 = i ∧ x ≤ 64 * i + k ∧ 64 * i + k < x + n then false else partP p x y n j i true (64 * i + k) j) || _) = _
            by_cases c : x ≤ 64 * i + k ∧ 64 * i + k < x + n
            · rw [decide_eq_true (show x - 64 * i ≤ k ∧ k < min (x + n - 64 * i) 64 by omega), if_pos rfl]; simp
            · rw [decide_eq_false (show ¬ (x - 64 * i ≤ k ∧ k < min (x + n - 64 * i) 64) by omega), if_neg (fun e => c ⟨e.2.2.1, e.2.2.2⟩)]; simp) (fun x' y' _ _ hne => by
            show _ = (if y' = j ∧ x' / 64 = i ∧ x ≤ x' ∧ x' < x + n then false else partP p x y n j i true x' y')
            rw [if_neg (by rintro ⟨e1, e2, _⟩; rcases hne with h | h; exact h e1; exact h e2)]
            unfold partP
            by_cases d : x ≤ x' ∧ x' < x + n ∧ ((y ≤ y' ∧ y' < j) ∨ (y' = j ∧ x' / 64 < i))
            · rw [if_pos d, if_pos (by omega)]
            · rw [if_neg d, if_neg (by rintro ⟨d1, d2, d3⟩; exact d ⟨d1, d2, d3.imp id fun e => ⟨e.1, by rcases hne with h | h; exact absurd e.1 h; omega⟩⟩)])
        simp -implicitDefEqProofs -dsimp (disch := omega) only [go_sem, Nat.reduceEqDiff, ↓reduceIte, Nat.reduceAdd, Nat.reduceMul, Nat.reduceSub, Nat.reduceLT, Nat.reduceLeDiff, Int.reduceLT, Int.reduceLE, Int.reduceEq, Int.reduceNeg, Int.reduceAdd, Int.reduceMul, Int.reduceSub, Int.reduceToNat, reduceCtorEq, dec_t, dec_f, show ((true.toNat : Nat) : Int) = 1 from rfl, rd_s c3, e3, w64, cadd, Int.toNat_natCast, Nat.mul_one, hr']
        refine mask_ct hp (by omega) hil (by omega) (by omega) ?_
        simp -implicitDefEqProofs -dsimp (disch := omega) only [go_sem, Nat.reduceEqDiff, ↓reduceIte, Nat.reduceAdd, Nat.reduceMul, Nat.reduceSub, Nat.reduceLT, Nat.reduceLeDiff, Int.reduceLT, Int.reduceLE, Int.reduceEq, Int.reduceNeg, Int.reduceAdd, Int.reduceMul, Int.reduceSub, Int.reduceToNat, reduceCtorEq, dec_t, dec_f, ]
        refine aft_intro (by simp [rechecks, recheck, fresh, Fr.get, look, step, opd, rd_s c3, hr']) ?_
        simp -implicitDefEqProofs -dsimp (disch := omega) only [go_sem, Nat.reduceEqDiff, ↓reduceIte, Nat.reduceAdd, Nat.reduceMul, Nat.reduceSub, Nat.reduceLT, Nat.reduceLeDiff, Int.reduceLT, Int.reduceLE, Int.reduceEq, Int.reduceNeg, Int.reduceAdd, Int.reduceMul, Int.reduceSub, Int.reduceToNat, reduceCtorEq, dec_t, dec_f, hor, Int.toNat_natCast, Nat.mul_one, hw4, w64, cadd1]
        subst hK2
        exact rnd_n ((x + n - 1) / 64 + 1 - (i + 1)) (by omega) ⟨i + 1, rfl, by omega, by omega, rfl, h4⟩
    · obtain rfl : i = (x + n - 1) / 64 + 1 := by omega
      simp -implicitDefEqProofs -dsimp (disch := omega) only [go_sem, Nat.reduceEqDiff, ↓reduceIte, Nat.reduceAdd, Nat.reduceMul, Nat.reduceSub, Nat.reduceLT, Nat.reduceLeDiff, Int.reduceLT, Int.reduceLE, Int.reduceEq, Int.reduceNeg, Int.reduceAdd, Int.reduceMul, Int.reduceSub, Int.reduceToNat, reduceCtorEq, dec_t, dec_f, bitmap_Map_Fill_l1, w64, tdivN, ex2]
      subst hK2
      simp -implicitDefEqProofs -dsimp (disch := omega) only [go_sem, Nat.reduceEqDiff, ↓reduceIte, Nat.reduceAdd, Nat.reduceMul, Nat.reduceSub, Nat.reduceLT, Nat.reduceLeDiff, Int.reduceLT, Int.reduceLE, Int.reduceEq, Int.reduceNeg, Int.reduceAdd, Int.reduceMul, Int.reduceSub, Int.reduceToNat, reduceCtorEq, dec_t, dec_f, w64, cadd1]
      subst hK
      refine rnd_n (y + hi - (j + 1)) (by omega) ⟨j + 1, rfl, by omega, by omega, rfl, ?_⟩
      have e : partP p x y n (j + 1) 0 bb = partP p x y n j ((x + n - 1) / 64 + 1) bb := by
        funext i' j'
        unfold partP
        by_cases d : x ≤ i' ∧ i' < x + n ∧ ((y ≤ j' ∧ j' < j + 1) ∨ (j' = j + 1 ∧ i' / 64 < 0))
        · rw [if_pos d, if_pos (by omega)]
        · rw [if_neg d, if_neg (by omega)]
      rw [e]; exact h2
  · obtain rfl : j = y + hi := by omega
    simp -implicitDefEqProofs -dsimp (disch := omega) only [go_sem, Nat.reduceEqDiff, ↓reduceIte, Nat.reduceAdd, Nat.reduceMul, Nat.reduceSub, Nat.reduceLT, Nat.reduceLeDiff, Int.reduceLT, Int.reduceLE, Int.reduceEq, Int.reduceNeg, Int.reduceAdd, Int.reduceMul, Int.reduceSub, Int.reduceToNat, reduceCtorEq, dec_t, dec_f, bitmap_Map_Fill_l0, w64]
    subst hK
    refine hQ _ H1 rfl ?_
    have e : partP p x y n (y + hi) 0 bb = fillP p x y n hi bb := by
      funext i' j'
      unfold partP fillP
      by_cases d : x ≤ i' ∧ i' < x + n ∧ ((y ≤ j' ∧ j' < y + hi) ∨ (j' = y + hi ∧ i' / 64 < 0))
      · rw [if_pos d, if_pos (by omega)]
      · rw [if_neg d, if_neg (by omega)]
    rw [← e]; exact h1
end
end Go.Ab
