/- Rectangles cut to a map; filled. Conditions: none. -/
import Derived.Test.YtfgecfbknpifjaaC1
set_option linter.all false
namespace Go.Ab

def cutS (off n size : Int) : Int × Int := if n ≤ 0 ∨ size ≤ off ∨ off ≤ -n then (0, 0) else if 0 ≤ off then (0, min n (size - off)) else (-off, min (n + off) size)
theorem cutS_spec {off n size i : Int} (hs : 0 ≤ size) : (0 ≤ i ∧ i < n ∧ 0 ≤ off + i ∧ off + i < size) ↔ ((cutS off n size).1 ≤ i ∧ i < (cutS off n size).1 + (cutS off n size).2) := by
  unfold cutS
  split
  · dsimp only; omega
  · split <;> dsimp only <;> omega
theorem cutS_rng {off n size : Int} (hs : 1 ≤ size) : 0 ≤ (cutS off n size).1 ∧ 0 ≤ (cutS off n size).2 ∧ (cutS off n size).2 ≤ size ∧ ((cutS off n size).2 ≠ 0 → 0 ≤ off + (cutS off n size).1 ∧ off + (cutS off n size).1 + (cutS off n size).2 ≤ size ∧ (cutS off n size).1 + (cutS off n size).2 ≤ n) ∧
    ((cutS off n size).2 = 0 → (cutS off n size).1 = 0) := by
  unfold cutS
  split
  · dsimp only; omega
  · split <;> dsimp only <;> omega
theorem cutS_lt {off n size : Int} (h : (cutS off n size).1 ≠ 0) : (cutS off n size).1 = -off ∧ off < 0 := by
  revert h
  unfold cutS
  split
  · intro h; exact absurd rfl h
  · split
    · intro h; exact absurd rfl h
    · intro _; dsimp only; omega
theorem mm_min (a b : Int) : (if b < a then b else a) = min a b := by omega
theorem mm_max (a b : Int) : (if b > a then b else a) = max a b := by omega

/-- A mask's word. -/
def maskN (f t : Nat) : Nat := dif (18446744073709551615 / 2 ^ f) (18446744073709551615 / 2 ^ t)
theorem maskN_lt (f t : Nat) : maskN f t < 18446744073709551616 := dif_lt (shr_lt (by omega))
theorem wb_maskN {f t k : Nat} (hk : k < 64) : wb (maskN f t) k = decide (f ≤ k ∧ k < t) := by
  unfold maskN
  rw [wb_dif hk, wb_shr (by omega) hk, wb_shr (by omega) hk]
  by_cases h1 : f ≤ k
  · by_cases h2 : t ≤ k
    · rw [decide_eq_true h1, decide_eq_true h2, wb_ones (by omega), wb_ones (by omega)]; simp; omega
    · rw [decide_eq_true h1, decide_eq_false h2, wb_ones (by omega)]; simp; omega
  · rw [decide_eq_false h1]; simp; omega

section
variable {P : Prog} {H : Heap} {R : List As} {Q : Out → Heap → Prop} {m w h : Nat} {p : Nat → Nat → Bool}

theorem cut_ct (hp : HasBm P) {off n size : Int} (ho : -9223372036854775808 ≤ off ∧ off ≤ 9223372036854775807) (hn : -9223372036854775808 ≤ n ∧ n ≤ 9223372036854775807) (hs : 0 ≤ size ∧ size ≤ 1048576)
    (hQ : Q (.ret (.tup [.int .i64 (cutS off n size).1, .int .i64 (cutS off n size).2])) H) : Call P 53 [.int .i64 off, .int .i64 n, .int .i64 size] H Q := by
  refine call_of hp.h_bitmap_cut rfl ?_
  unfold cutS at hQ
  by_cases c1 : n ≤ 0 ∨ size ≤ off ∨ off ≤ -n
  · rw [if_pos c1] at hQ
    rcases (show n ≤ 0 ∨ (0 < n ∧ size ≤ off) ∨ (0 < n ∧ off < size ∧ off ≤ -n) by omega) with d | d | d <;>
    · simp -implicitDefEqProofs -dsimp (disch := omega) only [go_sem, dec_t, dec_f, w64]; exact hQ
  · rw [if_neg c1] at hQ
    have en : IntKind.wrap .i64 (0 - n) = -n := by rw [w64 (by omega)]; omega
    have eo : off < 0 → IntKind.wrap .i64 (0 - off) = -off := fun h => by rw [w64 (by omega)]; omega
    by_cases c2 : 0 ≤ off
    · rw [if_pos c2] at hQ
      simp -implicitDefEqProofs -dsimp (disch := omega) only [go_sem, dec_t, dec_f, w64, en, mm_min]; exact hQ
    · rw [if_neg c2] at hQ
      simp -implicitDefEqProofs -dsimp (disch := omega) only [go_sem, dec_t, dec_f, w64, en, eo (by omega), mm_min]; exact hQ

theorem mask_ct (hp : HasBm P) {i x n : Nat} (h1 : x / 64 ≤ i) (h2 : i ≤ (x + n - 1) / 64) (hn : 1 ≤ n) (hb : x + n ≤ 1099511627776) (hQ : Q (.ret (.int .u64 (maskN (x - 64 * i) (min (x + n - 64 * i) 64) : Nat))) H) :
    Call P 55 [.int .i64 i, .int .i64 x, .int .i64 n] H Q := by
  refine call_of hp.h_bitmap_mask rfl ?_
  have e1 : (64 : Int) * i = ((64 * i : Nat) : Int) := by omega
  have e2 : max ((x : Int) - ((64 * i : Nat) : Int)) 0 = ((x - 64 * i : Nat) : Int) := by omega
  have e3 : min ((x : Int) + n - ((64 * i : Nat) : Int)) 64 = ((min (x + n - 64 * i) 64 : Nat) : Int) := by omega
  simp -implicitDefEqProofs -dsimp (disch := omega) only [go_sem, dec_t, dec_f, w64, e1, mm_max, mm_min, e2, e3, shr_ones, dif64, shr_lt]
  rw [dif64 (shr_lt (by omega)) (shr_lt (by omega))]
  exact hQ

/-- Pixels of a rectangle. -/
def fillP (p : Nat → Nat → Bool) (x y w h : Int) (b : Bool) : Nat → Nat → Bool := fun i j => if x ≤ i ∧ (i : Int) < x + w ∧ y ≤ j ∧ (j : Int) < y + h then b else p i j
def fillR (w h bit : Int) : Int := if w < 0 ∨ h < 0 then 24 else if bit = 0 ∨ bit = 1 then 0 else 23
/-- Rows y to j are filled, of row j the words up to i. -/
def partP (p : Nat → Nat → Bool) (x y n j i : Nat) (b : Bool) : Nat → Nat → Bool := fun i' j' => if x ≤ i' ∧ i' < x + n ∧ ((y ≤ j' ∧ j' < j) ∨ (j' = j ∧ i' / 64 < i)) then b else p i' j'

def FiI (m w h : Nat) (p : Nat → Nat → Bool) (R : List As) (x y n hi : Nat) (b : Bool) (k : Nat) (fr : Fr) (H : Heap) : Prop :=
  ∃ j : Nat, k = y + hi - j ∧ y ≤ j ∧ j ≤ y + hi ∧ fr = ⟨[(0, .ptr (some (m, 0))), (1, .int .i64 x), (2, .int .i64 y), (5, .int .i64 (b.toNat : Nat)), (14, .int .i64 n), (15, .int .i64 hi), (16, .int .i64 j)], []⟩ ∧ Hs H (MapA m w h (partP p x y n j 0 b) :: R)
def FiJ (m w h : Nat) (p : Nat → Nat → Bool) (R : List As) (x y n hi j : Nat) (b : Bool) (k : Nat) (fr : Fr) (H : Heap) : Prop :=
  ∃ i : Nat, k = (x + n - 1) / 64 + 1 - i ∧ x / 64 ≤ i ∧ i ≤ (x + n - 1) / 64 + 1 ∧ fr = ⟨[(0, .ptr (some (m, 0))), (1, .int .i64 x), (2, .int .i64 y), (5, .int .i64 (b.toNat : Nat)), (14, .int .i64 n), (15, .int .i64 hi), (16, .int .i64 j), (17, .int .i64 i)], []⟩ ∧ Hs H (MapA m w h (partP p x y n j i b) :: R)

/-- The word behind a fill. -/
theorem fill_word {w h : Nat} {p : Nat → Nat → Bool} {x y n j i : Nat} {b : Bool} (hj : y ≤ j) (k : Nat) (hk : k < 64) (hxw : x + n ≤ w) :
    (if decide (x - 64 * i ≤ k ∧ k < min (x + n - 64 * i) 64) = true then b else wb (word w (partP p x y n j i b) j i) k) = (decide (64 * i + k < w) && partP p x y n j (i + 1) b (64 * i + k) j) := by
  rw [wb_word hk]
  unfold partP
  by_cases c : x ≤ 64 * i + k ∧ 64 * i + k < x + n
  · have c1 : decide (x - 64 * i ≤ k ∧ k < min (x + n - 64 * i) 64) = true := decide_eq_true (by omega)
    have c2 : decide (64 * i + k < w) = true := decide_eq_true (by omega)
    rw [if_pos c1, c2, Bool.true_and, if_pos ⟨c.1, c.2, Or.inr ⟨rfl, by omega⟩⟩]
  · have c1 : ¬ decide (x - 64 * i ≤ k ∧ k < min (x + n - 64 * i) 64) = true := fun e => c (by have := of_decide_eq_true e; omega)
    rw [if_neg c1, if_neg (fun e => c ⟨e.1, e.2.1⟩), if_neg (fun e => c ⟨e.1, e.2.1⟩)]

theorem fill_in (hp : HasBm P) {x y n hi : Nat} {bb : Bool} (hs : Hs H (MapA m w h p :: R)) (hn : 1 ≤ n) (hh : 1 ≤ hi) (hx : x + n ≤ w) (hy : y + hi ≤ h) {Qp : Post}
    (hQ : ∀ fr H', fr.ds = [] → Hs H' (MapA m w h (fillP p x y n hi bb) :: R) → Qp (.exit 1) fr H') {s t} :
    loopL (Call P) [0, 1, 2, 5, 14, 15, 16] bitmap_Map_Fill_l0 Qp s t ⟨[(0, .ptr (some (m, 0))), (1, .int .i64 x), (2, .int .i64 y), (5, .int .i64 (bb.toNat : Nat)), (14, .int .i64 n), (15, .int .i64 hi), (16, .int .i64 y)], []⟩ H := by
  obtain ⟨b0, k0⟩ := mapV hs
  have hwl := k0.words
  have hwa : w ≤ 1048576 := by have := k0.area; have := k0.h1; have := Nat.le_mul_of_pos_right w (show 0 < h by omega); omega
  have hha : h ≤ 1048576 := by have := k0.area; have := k0.w1; have := Nat.le_mul_of_pos_left h (show 0 < w by omega); omega
  clear k0
  have hstart : partP p x y n y 0 bb = p := by
    funext i j; unfold partP; rw [if_neg (by omega)]
  refine loop_inv (FiI m w h p R x y n hi bb) ?_ hi _ _ ⟨y, by omega, by omega, by omega, rfl, by rw [hstart]; exact hs⟩
  rintro k fr H1 ⟨j, hk, hj, hj2, rfl, h1⟩
  generalize hK : rnd (FiI m w h p R x y n hi bb) k = K
  by_cases hjl : j < y + hi
  · have ex : (x : Int) / 64 = ((x / 64 : Nat) : Int) := rfl
    simp -implicitDefEqProofs -dsimp (disch := omega) only [go_sem, dec_t, dec_f, bitmap_Map_Fill_l0, w64, tdivN, ex]
    refine loop_inv (FiJ m w h p R x y n hi j bb) ?_ _ _ _ ⟨x / 64, rfl, by omega, by omega, rfl, by
      have e : partP p x y n j (x / 64) bb = partP p x y n j 0 bb := by
        funext i' j'
        unfold partP
        by_cases c : x ≤ i' ∧ i' < x + n ∧ ((y ≤ j' ∧ j' < j) ∨ (j' = j ∧ i' / 64 < 0))
        · rw [if_pos c, if_pos (by omega)]
        · rw [if_neg c, if_neg (fun e => c ⟨e.1, e.2.1, e.2.2.imp id fun e => ⟨e.1, by omega⟩⟩)]
      rw [e]; exact h1⟩
    rintro k2 fr2 H2 ⟨i, hk2, hi1, hi2, rfl, h2⟩
    generalize hK2 : rnd (FiJ m w h p R x y n hi j bb) k2 = K2
    have ex2 : ((x : Int) + n - 1) / 64 = (((x + n - 1) / 64 : Nat) : Int) := by omega
    by_cases hil : i ≤ (x + n - 1) / 64
    · obtain ⟨b, kv⟩ := mapV h2
      have hiw : i < wds w := by unfold wds; omega
      have hidx := word_at (show j < h by omega) hiw
      have hjj : j * wds w ≤ h * wds w := Nat.mul_le_mul_right _ (by omega)
      have e3 : (j : Int) * ((wds w : Nat) : Int) = ((j * wds w : Nat) : Int) := (Int.natCast_mul _ _).symm
      have hr := kv.rd j i (by omega) hiw
      have hW := word_lt w (partP p x y n j i bb) j i
      have hm := maskN_lt (x - 64 * i) (min (x + n - 64 * i) 64)
      -- first the word without the mask
      let q1 : Nat → Nat → Bool := fun i' j' => if j' = j ∧ i' / 64 = i ∧ x ≤ i' ∧ i' < x + n then false else partP p x y n j i bb i' j'
      obtain ⟨H3, hw3, h3, hm3⟩ := kv.wr j i (dif (word w (partP p x y n j i bb) j i) (maskN (x - 64 * i) (min (x + n - 64 * i) 64))) q1 (by omega) hiw (dif_lt hW) (fun k hk => by
          rw [wb_dif hk, wb_maskN hk, wb_word hk]
          show _ = (decide (64 * i + k < w) && (if j = j ∧ (64 * i + k) / 64 = i ∧ x ≤ 64 * i + k ∧ 64 * i + k < x + n then false else partP p x y n j i bb (64 * i + k) j))
          by_cases c : x ≤ 64 * i + k ∧ 64 * i + k < x + n
          · rw [decide_eq_true (show x - 64 * i ≤ k ∧ k < min (x + n - 64 * i) 64 by omega), if_pos ⟨rfl, by omega, c.1, c.2⟩]; simp
          · rw [decide_eq_false (show ¬ (x - 64 * i ≤ k ∧ k < min (x + n - 64 * i) 64) by omega), if_neg (fun e => c ⟨e.2.2.1, e.2.2.2⟩)]; simp) (fun x' y' _ _ hne => by
          show (if y' = j ∧ x' / 64 = i ∧ x ≤ x' ∧ x' < x + n then false else partP p x y n j i bb x' y') = _
          rw [if_neg]; rintro ⟨e1, e2, _⟩; rcases hne with h | h; exact h e1; exact h e2)
      have c3 : H3.get m = _ := hm3.trans kv.cell
      simp -implicitDefEqProofs -dsimp (disch := omega) only [go_sem, dec_t, dec_f, bitmap_Map_Fill_l1, w64, tdivN, ex2, rd_s kv.cell, e3, cadd, Int.toNat_natCast, Nat.mul_one, hr]
      refine mask_ct hp (by omega) hil (by omega) (by omega) ?_
      simp -implicitDefEqProofs -dsimp (disch := omega) only [go_sem, dec_t, dec_f, ]
      refine aft_intro (t := tag _) (by simp [rechecks, recheck, fresh, Fr.get, Fr.put, look, step, opd, rd_s kv.cell, hr]) ?_
      simp -implicitDefEqProofs -dsimp (disch := omega) only [go_sem, dec_t, dec_f, dif64 hW hm, Int.toNat_natCast, Nat.mul_one, hw3]
      obtain ⟨b', kv'⟩ := mapV h3
      have hbb : b' = b := by have := kv'.cell; rw [c3] at this; cases this; rfl
      subst hbb
      have hr' := kv'.rd j i (by omega) hiw
      cases bb with
      | false =>
        have e1 : q1 = partP p x y n j (i + 1) false := by
          funext i' j'
          show (if j' = j ∧ i' / 64 = i ∧ x ≤ i' ∧ i' < x + n then false else partP p x y n j i false i' j') = _
          unfold partP
          by_cases c : j' = j ∧ i' / 64 = i ∧ x ≤ i' ∧ i' < x + n
          · rw [if_pos c, if_pos ⟨c.2.2.1, c.2.2.2, Or.inr ⟨c.1, by omega⟩⟩]
          · rw [if_neg c]
            by_cases d : x ≤ i' ∧ i' < x + n ∧ ((y ≤ j' ∧ j' < j) ∨ (j' = j ∧ i' / 64 < i))
            · rw [if_pos d, if_pos (by omega)]
            · rw [if_neg d, if_neg (by omega)]
        rw [e1] at h3
        simp -implicitDefEqProofs -dsimp (disch := omega) only [go_sem, dec_t, dec_f, w64, cadd1, show ((false.toNat : Nat) : Int) = 0 from rfl]
        subst hK2
        exact rnd_n ((x + n - 1) / 64 + 1 - (i + 1)) (by omega) ⟨i + 1, rfl, by omega, by omega, rfl, h3⟩
      | true =>
        have hW' := word_lt w q1 j i
        have hor : bitop .or .u64 ((word w q1 j i : Nat) : Int) ((maskN (x - 64 * i) (min (x + n - 64 * i) 64) : Nat) : Int) = ((word w q1 j i ||| maskN (x - 64 * i) (min (x + n - 64 * i) 64) : Nat) : Int) := or64 hW' hm
        obtain ⟨H4, hw4, h4, hm4⟩ := kv'.wr j i (word w q1 j i ||| maskN (x - 64 * i) (min (x + n - 64 * i) 64)) (partP p x y n j (i + 1) true) (by omega) hiw (or_lt hW' hm) (fun k hk => by
            rw [wb_or, wb_maskN hk, ← fill_word (h := h) hj k hk hx, wb_word hk, wb_word hk]
            show (decide (64 * i + k < w) && (if j = j ∧ (64 * i + k) / 64 = i ∧ x ≤ 64 * i + k ∧ 64 * i + k < x + n then false else partP p x y n j i true (64 * i + k) j) || _) = _
            by_cases c : x ≤ 64 * i + k ∧ 64 * i + k < x + n
            · rw [decide_eq_true (show x - 64 * i ≤ k ∧ k < min (x + n - 64 * i) 64 by omega), if_pos rfl]; simp
            · rw [decide_eq_false (show ¬ (x - 64 * i ≤ k ∧ k < min (x + n - 64 * i) 64) by omega), if_neg (fun e => c ⟨e.2.2.1, e.2.2.2⟩)]; simp) (fun x' y' _ _ hne => by
            show _ = (if y' = j ∧ x' / 64 = i ∧ x ≤ x' ∧ x' < x + n then false else partP p x y n j i true x' y')
            rw [if_neg (by rintro ⟨e1, e2, _⟩; rcases hne with h | h; exact h e1; exact h e2)]
            unfold partP
            by_cases d : x ≤ x' ∧ x' < x + n ∧ ((y ≤ y' ∧ y' < j) ∨ (y' = j ∧ x' / 64 < i))
            · rw [if_pos d, if_pos (by omega)]
            · rw [if_neg d, if_neg (by rintro ⟨d1, d2, d3⟩; exact d ⟨d1, d2, d3.imp id fun e => ⟨e.1, by rcases hne with h | h; exact absurd e.1 h; omega⟩⟩)])
        simp -implicitDefEqProofs -dsimp (disch := omega) only [go_sem, dec_t, dec_f, show ((true.toNat : Nat) : Int) = 1 from rfl, rd_s c3, e3, w64, cadd, Int.toNat_natCast, Nat.mul_one, hr']
        refine mask_ct hp (by omega) hil (by omega) (by omega) ?_
        simp -implicitDefEqProofs -dsimp (disch := omega) only [go_sem, dec_t, dec_f, ]
        refine aft_intro (t := tag _) (by simp [rechecks, recheck, fresh, Fr.get, Fr.put, look, step, opd, rd_s c3, hr']) ?_
        simp -implicitDefEqProofs -dsimp (disch := omega) only [go_sem, dec_t, dec_f, hor, Int.toNat_natCast, Nat.mul_one, hw4, w64, cadd1]
        subst hK2
        exact rnd_n ((x + n - 1) / 64 + 1 - (i + 1)) (by omega) ⟨i + 1, rfl, by omega, by omega, rfl, h4⟩
    · obtain rfl : i = (x + n - 1) / 64 + 1 := by omega
      simp -implicitDefEqProofs -dsimp (disch := omega) only [go_sem, dec_t, dec_f, bitmap_Map_Fill_l1, w64, tdivN, ex2]
      subst hK2
      simp -implicitDefEqProofs -dsimp (disch := omega) only [go_sem, dec_t, dec_f, w64, cadd1]
      subst hK
      refine rnd_n (y + hi - (j + 1)) (by omega) ⟨j + 1, rfl, by omega, by omega, rfl, ?_⟩
      have e : partP p x y n (j + 1) 0 bb = partP p x y n j ((x + n - 1) / 64 + 1) bb := by
        funext i' j'
        unfold partP
        by_cases d : x ≤ i' ∧ i' < x + n ∧ ((y ≤ j' ∧ j' < j + 1) ∨ (j' = j + 1 ∧ i' / 64 < 0))
        · rw [if_pos d, if_pos (by omega)]
        · rw [if_neg d, if_neg (by omega)]
      rw [e]; exact h2
  · obtain rfl : j = y + hi := by omega
    simp -implicitDefEqProofs -dsimp (disch := omega) only [go_sem, dec_t, dec_f, bitmap_Map_Fill_l0, w64]
    subst hK
    refine hQ _ H1 rfl ?_
    have e : partP p x y n (y + hi) 0 bb = fillP p x y n hi bb := by
      funext i' j'
      unfold partP fillP
      by_cases d : x ≤ i' ∧ i' < x + n ∧ ((y ≤ j' ∧ j' < y + hi) ∨ (j' = y + hi ∧ i' / 64 < 0))
      · rw [if_pos d, if_pos (by omega)]
      · rw [if_neg d, if_neg (by omega)]
    rw [← e]; exact h1
end
end Go.Ab
/- Fill, as a whole; words that are laid. Conditions: none. -/
namespace Go.Ab

section
variable {P : Prog} {H : Heap} {R : List As} {Q : Out → Heap → Prop} {m w h : Nat} {p : Nat → Nat → Bool}

theorem Hs.mapc {q : Nat → Nat → Bool} (hs : Hs H (MapA m w h p :: R)) (e : ∀ x y, x < w → y < h → p x y = q x y) : Hs H (MapA m w h q :: R) := by
  refine hs.step fun F ⟨v, k1, k2⟩ => ⟨fun _ => False, F, Same.refl _ _, fun _ _ h => h.elim, ⟨v, k1, ⟨k2.cell, ?_, k2.lt, k2.apart, k2.w1, k2.h1, k2.area⟩⟩, fun _ hx => Or.inl hx⟩
  rw [← Wds_congr e]; exact k2.own
theorem mapSz (hs : Hs H (MapA m w h p :: R)) : 1 ≤ w ∧ 1 ≤ h ∧ w * h ≤ 1048576 ∧ w ≤ 1048576 ∧ h ≤ 1048576 := by
  obtain ⟨b0, k0⟩ := mapV hs
  have h1 := k0.area; have h2 := k0.h1; have h3 := k0.w1
  have h4 := Nat.le_mul_of_pos_right w (show 0 < h by omega)
  have h5 := Nat.le_mul_of_pos_left h (show 0 < w by omega)
  exact ⟨h3, h2, h1, by omega, by omega⟩

def i64r (n : Int) : Prop := -9223372036854775808 ≤ n ∧ n ≤ 9223372036854775807

theorem cutS_skip {off n size : Int} (ho : i64r off) : (cutS off n size).1 ≤ 9223372036854775808 ∧ -9223372036854775808 ≤ off + (cutS off n size).1 ∧ off + (cutS off n size).1 ≤ 9223372036854775807 := by
  by_cases e : (cutS off n size).1 = 0
  · rw [e]; unfold i64r at ho; omega
  · have := cutS_lt e; unfold i64r at ho; omega

theorem fill_ct (hp : HasBm P) (hs : Hs H (MapA m w h p :: R)) {x y ww hh bit : Int} (hx : i64r x) (hy : i64r y) (hw : i64r ww) (hh' : i64r hh)
    (hQ : ∀ H', Hs H' (MapA m w h (if fillR ww hh bit = 0 then fillP p x y ww hh (decide (bit = 1)) else p) :: R) → Q (.ret (.int .i64 (fillR ww hh bit))) H') :
    Call P 56 [.ptr (some (m, 0)), .int .i64 x, .int .i64 y, .int .i64 ww, .int .i64 hh, .int .i64 bit] H Q := by
  obtain ⟨b0, k0⟩ := mapV hs
  obtain ⟨s1, s2, s3, s4, s5⟩ := mapSz hs
  unfold i64r at hx hy hw hh'
  refine call_of hp.h_bitmap_Map_Fill rfl ?_
  by_cases c1 : ww < 0 ∨ hh < 0
  · rw [show fillR ww hh bit = 24 by unfold fillR; rw [if_pos c1]] at hQ
    rcases (show ww < 0 ∨ (0 ≤ ww ∧ hh < 0) by omega) with d | d <;>
    · simp -implicitDefEqProofs -dsimp (disch := omega) only [go_sem, dec_t, dec_f, ]; exact hQ H hs
  · by_cases c2 : bit = 0 ∨ bit = 1
    · rw [show fillR ww hh bit = 0 by unfold fillR; rw [if_neg c1, if_pos c2], if_pos rfl] at hQ
      have r1 := cutS_rng (off := x) (n := ww) (size := w) (by omega)
      have r2 := cutS_rng (off := y) (n := hh) (size := h) (by omega)
      have l1 := cutS_skip (off := x) (n := ww) (size := w) hx
      have l2 := cutS_skip (off := y) (n := hh) (size := h) hy
      have z1 := fun i : Int => cutS_spec (off := x) (n := ww) (size := w) (i := i) (by omega)
      have z2 := fun i : Int => cutS_spec (off := y) (n := hh) (size := h) (i := i) (by omega)
      have main : ∀ bb : Bool, bit = (bb.toNat : Nat) → decide (bit = 1) = bb → wpC (Call P) bitmap_Map_Fill.body (fin P true [.t 12] Q) ⟨frame0 0 [.ptr (some (m, 0)), .int .i64 x, .int .i64 y, .int .i64 ww, .int .i64 hh, .int .i64 bit], []⟩ H := by
        intro bb hb1 hb2
        rw [hb2] at hQ
        unfold bitmap_Map_Fill
        have hbl := Bool.toNat_le bb
        have tail : ∀ {Qq : Prop}, (bit = 0 → Qq) → (bit = 1 → Qq) → Qq := fun a b => c2.elim a b
        refine tail (fun e => ?_) (fun e => ?_) <;>
        · simp -implicitDefEqProofs -dsimp (disch := omega) only [go_sem, dec_t, dec_f, rd_s k0.cell]
          refine cut_ct hp hx hw (by omega) ?_
          simp -implicitDefEqProofs -dsimp (disch := omega) only [go_sem, dec_t, dec_f, w64, rd_s k0.cell]
          refine cut_ct hp hy hh' (by omega) ?_
          generalize hc1 : cutS x ww w = cx at *
          generalize hc2 : cutS y hh h = cy at *
          obtain ⟨xs, xl⟩ := cx
          obtain ⟨ys, yl⟩ := cy
          dsimp only at r1 r2 l1 l2 z1 z2
          have hval : ∀ i j : Nat, i < w → j < h → (fillP p x y ww hh bb i j = if (xs ≤ (i : Int) - x ∧ (i : Int) - x < xs + xl) ∧ ys ≤ (j : Int) - y ∧ (j : Int) - y < ys + yl then bb else p i j) := by
            intro i j hi hj
            unfold fillP
            have a1 := z1 ((i : Int) - x)
            have a2 := z2 ((j : Int) - y)
            by_cases d : x ≤ i ∧ (i : Int) < x + ww ∧ y ≤ j ∧ (j : Int) < y + hh
            · rw [if_pos d, if_pos ⟨a1.1 (by omega), a2.1 (by omega)⟩]
            · rw [if_neg d, if_neg (fun e => d (by have := a1.2 e.1; have := a2.2 e.2; omega))]
          by_cases hz : xl = 0 ∨ yl = 0
          · rcases (show xl = 0 ∨ (xl ≠ 0 ∧ yl = 0) by omega) with d | d <;>
            · simp -implicitDefEqProofs -dsimp (disch := omega) only [go_sem, dec_t, dec_f, w64]
              exact hQ H (hs.mapc fun i j hi hj => by rw [hval i j hi hj, if_neg (by omega)])
          · have hz1 : xl ≠ 0 := fun e => hz (Or.inl e)
            have hz2 : yl ≠ 0 := fun e => hz (Or.inr e)
            have g1 := r1.2.2.2.1 hz1
            have g2 := r2.2.2.2.1 hz2
            obtain ⟨xn, hxn⟩ : ∃ xn : Nat, x + xs = xn := ⟨(x + xs).toNat, by omega⟩
            obtain ⟨yn, hyn⟩ : ∃ yn : Nat, y + ys = yn := ⟨(y + ys).toNat, by omega⟩
            obtain ⟨wn, rfl⟩ : ∃ wn : Nat, xl = wn := ⟨xl.toNat, by omega⟩
            obtain ⟨hn, rfl⟩ : ∃ hn : Nat, yl = hn := ⟨yl.toNat, by omega⟩
            have eb : bit = ((bb.toNat : Nat) : Int) := hb1
            simp -implicitDefEqProofs -dsimp (disch := omega) only [go_sem, dec_t, dec_f, w64, hxn, hyn]
            rw [eb]
            refine fill_in hp hs (by omega) (by omega) (by omega) (by omega) fun fr H' hds h2 => ?_
            obtain ⟨tm, ds⟩ := fr
            cases hds
            simp -implicitDefEqProofs -dsimp (disch := omega) only [go_sem, dec_t, dec_f, ]
            refine hQ H' (h2.mapc fun i j hi hj => ?_)
            rw [hval i j hi hj]
            unfold fillP
            by_cases d : (xn : Int) ≤ i ∧ (i : Int) < xn + wn ∧ (yn : Int) ≤ j ∧ (j : Int) < yn + hn
            · rw [if_pos d, if_pos (by omega)]
            · rw [if_neg d, if_neg (by omega)]
      rcases c2 with rfl | rfl
      · exact main false rfl rfl
      · exact main true rfl rfl
    · rw [show fillR ww hh bit = 23 by unfold fillR; rw [if_neg c1, if_neg c2]] at hQ
      simp -implicitDefEqProofs -dsimp (disch := omega) only [go_sem, dec_t, dec_f, ]
      exact hQ H hs
end
end Go.Ab
/- Words of a row from any place on; the operations; copies. Conditions: none. -/
namespace Go.Ab

/-- The operations, on words, on pixels. -/
def opW (op a b : Nat) : Nat := if op = 0 then a ||| b else if op = 1 then a &&& b else if op = 2 then a ^^^ b else if op = 3 then inv (a ^^^ b) else b
def opB (op : Nat) (a b : Bool) : Bool := if op = 0 then a || b else if op = 1 then a && b else if op = 2 then a ^^ b else if op = 3 then !(a ^^ b) else b
theorem opW_lt {op a b : Nat} (ha : a < 18446744073709551616) (hb : b < 18446744073709551616) : opW op a b < 18446744073709551616 := by
  unfold opW
  split; · exact or_lt ha hb
  split; · exact and_lt ha
  split; · exact xor_lt ha hb
  split; · exact inv_lt (xor_lt ha hb)
  exact hb
theorem wb_opW {op a b k : Nat} (hk : k < 64) : wb (opW op a b) k = opB op (wb a k) (wb b k) := by
  unfold opW opB
  split; · exact wb_or _ _ _
  split; · exact wb_and _ _ _
  split; · exact wb_xor _ _ _
  split; · rw [wb_inv hk, wb_xor]
  rfl

/-- The pixel of a row of words. -/
def rowB (L : List Nat) (z : Int) : Bool := decide (0 ≤ z) && wb (L.getD (z.toNat / 64) 0) (z.toNat % 64)
def wordN (L : List Nat) (x : Nat) : Nat := if L.length ≤ x / 64 then 0 else if 0 < x % 64 ∧ x / 64 + 1 < L.length then L.getD (x / 64) 0 * 2 ^ (x % 64) % 18446744073709551616 ||| L.getD (x / 64 + 1) 0 / 2 ^ (64 - x % 64) else L.getD (x / 64) 0 * 2 ^ (x % 64) % 18446744073709551616
theorem getD_lt {L : List Nat} (hL : ∀ n ∈ L, n < 18446744073709551616) (i : Nat) : L.getD i 0 < 18446744073709551616 := by
  rw [List.getD_eq_getElem?_getD]
  cases h : L[i]? with
  | none => simp
  | some x => exact hL x (List.mem_of_getElem? h)
theorem getD_out {L : List Nat} {i : Nat} (h : L.length ≤ i) : L.getD i 0 = 0 := by rw [List.getD_eq_getElem?_getD, List.getElem?_eq_none h]; rfl
theorem wordN_lt {L : List Nat} (hL : ∀ n ∈ L, n < 18446744073709551616) (x : Nat) : wordN L x < 18446744073709551616 := by
  unfold wordN
  split; · omega
  split
  · exact or_lt (modw_lt _) (shr_lt (getD_lt hL _))
  · exact modw_lt _
theorem wb_wordN {L : List Nat} (hL : ∀ n ∈ L, n < 18446744073709551616) {x k : Nat} (hk : k < 64) : wb (wordN L x) k = rowB L ((x + k : Nat) : Int) := by
  unfold wordN rowB
  rw [decide_eq_true (by omega), Bool.true_and, Int.toNat_natCast]
  split
  · rw [getD_out (by omega), wb_zero, wb_zero]
  · split
    · rw [wb_or, wb_shl hk, wb_shr (getD_lt hL _) hk]
      by_cases c : k + x % 64 < 64
      · rw [decide_eq_true c, decide_eq_false (by omega), show (x + k) / 64 = x / 64 by omega, show (x + k) % 64 = k + x % 64 by omega]; simp
      · rw [decide_eq_false c, decide_eq_true (by omega), show (x + k) / 64 = x / 64 + 1 by omega, show (x + k) % 64 = k - (64 - x % 64) by omega]; simp
    · rename_i h1 h2
      rw [wb_shl hk]
      by_cases c : k + x % 64 < 64
      · rw [decide_eq_true c, show (x + k) / 64 = x / 64 by omega, show (x + k) % 64 = k + x % 64 by omega]; simp
      · rw [decide_eq_false c, show (x + k) / 64 = x / 64 + 1 by omega, getD_out (i := x / 64 + 1) (by omega), wb_zero]; rfl

section
variable {P : Prog} {H : Heap} {R : List As} {Q : Out → Heap → Prop}

theorem does_ct (hp : HasBm P) {op a b : Nat} (ho : op < 5) (ha : a < 18446744073709551616) (hb : b < 18446744073709551616) (hQ : Q (.ret (.int .u64 (opW op a b : Nat))) H) : Call P (57 + op) [.int .u64 a, .int .u64 b] H Q := by
  rcases (show op = 0 ∨ op = 1 ∨ op = 2 ∨ op = 3 ∨ op = 4 by omega) with rfl | rfl | rfl | rfl | rfl
  · refine call_of hp.h_bitmap_operations_1 rfl ?_
    simp -implicitDefEqProofs -dsimp (disch := omega) only [go_sem, dec_t, dec_f, or64 ha hb]; exact hQ
  · refine call_of hp.h_bitmap_operations_2 rfl ?_
    simp -implicitDefEqProofs -dsimp (disch := omega) only [go_sem, dec_t, dec_f, and64 ha hb]; exact hQ
  · refine call_of hp.h_bitmap_operations_3 rfl ?_
    simp -implicitDefEqProofs -dsimp (disch := omega) only [go_sem, dec_t, dec_f, xor64 ha hb]; exact hQ
  · refine call_of hp.h_bitmap_operations_4 rfl ?_
    simp -implicitDefEqProofs -dsimp (disch := omega) only [go_sem, dec_t, dec_f, xor64 ha hb, not64 (xor_lt ha hb)]; exact hQ
  · refine call_of hp.h_bitmap_operations_5 rfl ?_
    simp -implicitDefEqProofs -dsimp (disch := omega) only [go_sem, dec_t, dec_f, ]; exact hQ
theorem operations_ct (hp : HasBm P) (hs : Hs H R) (hQ : ∀ b H', Hs H' (Cel b [.fn 57 [] [], .fn 58 [] [], .fn 59 [] [], .fn 60 [] [], .fn 61 [] []] :: R) → Q (.ret (.sl (some (b, 0)) 5 5 1)) H') : Call P 62 [] H Q := by
  refine call_of hp.h_bitmap_operations rfl ?_
  simp -implicitDefEqProofs -dsimp (disch := omega) only [go_sem, dec_t, dec_f, ]
  exact hQ _ _ hs.alloc

theorem word_pos (hp : HasBm P) {rv : V} {L : List Nat} (hr : Arr H rv 1 L.length (u64s L)) (hL : ∀ n ∈ L, n < 18446744073709551616) (hl : L.length ≤ 1048576) {x : Nat} (hx : x ≤ 1099511627776) (hQ : Q (.ret (.int .u64 (wordN L x : Nat))) H) :
    Call P 63 [rv, .int .i64 x] H Q := by
  obtain ⟨a, c, e', rfl⟩ := hr.shape
  refine call_of hp.h_bitmap_word rfl ?_
  have e1 : (x : Int) / 64 = ((x / 64 : Nat) : Int) := rfl
  have e2 : (x : Int) % 64 = ((x % 64 : Nat) : Int) := rfl
  unfold wordN at hQ
  by_cases c1 : L.length ≤ x / 64
  · rw [if_pos c1] at hQ
    simp -implicitDefEqProofs -dsimp (disch := omega) only [go_sem, dec_t, dec_f, tdivN, e1, w64]
    exact hQ
  · rw [if_neg c1] at hQ
    obtain ⟨b3, o3, c3, hv3, hr3⟩ := arr_u64 hr (show x / 64 < L.length by omega)
    cases hv3
    have g0 : L.getD (x / 64) 0 = L[x / 64] := by rw [List.getD_eq_getElem?_getD, List.getElem?_eq_getElem (by omega)]; rfl
    rw [← g0] at hr3
    have l0 := getD_lt hL (x / 64)
    by_cases c2 : 0 < x % 64 ∧ x / 64 + 1 < L.length
    · rw [if_pos c2] at hQ
      obtain ⟨b4, o4, c4, hv4, hr4⟩ := arr_u64 hr c2.2
      cases hv4
      have g1 : L.getD (x / 64 + 1) 0 = L[x / 64 + 1] := by rw [List.getD_eq_getElem?_getD, List.getElem?_eq_getElem c2.2]; rfl
      rw [← g1] at hr4
      have l1 := getD_lt hL (x / 64 + 1)
      have e3 : 64 - ((x % 64 : Nat) : Int) = ((64 - x % 64 : Nat) : Int) := by omega
      have eo : bitop .or .u64 ((L.getD (x / 64) 0 * 2 ^ (x % 64) % 18446744073709551616 : Nat) : Int) ((L.getD (x / 64 + 1) 0 / 2 ^ (64 - x % 64) : Nat) : Int) = ((L.getD (x / 64) 0 * 2 ^ (x % 64) % 18446744073709551616 ||| L.getD (x / 64 + 1) 0 / 2 ^ (64 - x % 64) : Nat) : Int) := or64 (modw_lt _) (shr_lt l1)
      simp -implicitDefEqProofs -dsimp (disch := omega) only [go_sem, dec_t, dec_f, tdivN, tmodN, e1, e2, w64, Int.toNat_natCast, Nat.mul_one, hr3, hr4, shlw, cadd1, e3, shr64 l1, eo]
      exact hQ
    · rw [if_neg c2] at hQ
      rcases (show x % 64 = 0 ∨ (0 < x % 64 ∧ L.length ≤ x / 64 + 1) by omega) with d | d <;>
      · simp -implicitDefEqProofs -dsimp (disch := omega) only [go_sem, dec_t, dec_f, tdivN, tmodN, e1, e2, w64, Int.toNat_natCast, Nat.mul_one, hr3, shlw, cadd1]
        exact hQ
theorem word_ct (hp : HasBm P) {rv : V} {L : List Nat} (hr : Arr H rv 1 L.length (u64s L)) (hL : ∀ n ∈ L, n < 18446744073709551616) (hl : L.length ≤ 1048576) {x : Int} (hx : -64 < x ∧ x ≤ 1099511627776)
    (hQ : ∀ n : Nat, n < 18446744073709551616 → (∀ k, k < 64 → wb n k = rowB L (x + k)) → Q (.ret (.int .u64 n)) H) : Call P 63 [rv, .int .i64 x] H Q := by
  by_cases c : 0 ≤ x
  · obtain ⟨xn, rfl⟩ : ∃ xn : Nat, x = xn := ⟨x.toNat, by omega⟩
    exact word_pos hp hr hL hl (by omega) (hQ _ (wordN_lt hL _) fun k hk => by rw [wb_wordN hL hk]; rfl)
  · obtain ⟨d, rfl⟩ : ∃ d : Nat, x = -(d : Int) := ⟨(-x).toNat, by omega⟩
    refine call_of hp.h_bitmap_word rfl ?_
    simp -implicitDefEqProofs -dsimp (disch := omega) only [go_sem, dec_t, dec_f, ]
    refine word_pos hp hr hL hl (x := 0) (by omega) ?_
    have e1 : (0 : Int) - -(d : Int) = (d : Int) := by omega
    simp -implicitDefEqProofs -dsimp (disch := omega) only [go_sem, dec_t, dec_f, e1, w64, shr64 (wordN_lt hL 0)]
    refine hQ _ (shr_lt (wordN_lt hL 0)) fun k hk => ?_
    rw [wb_shr (wordN_lt hL 0) hk]
    by_cases ck : d ≤ k
    · rw [decide_eq_true ck, Bool.true_and, wb_wordN hL (by omega)]; congr 1; omega
    · rw [decide_eq_false ck]; unfold rowB; rw [decide_eq_false (by omega)]; rfl

def bothS (a as b bs n : Int) : Int × Int × Int :=
  if (cutS a n as).2 = 0 ∨ 9223372036854775807 - (cutS a n as).1 < b then (0, 0, 0) else
    (a + (cutS a n as).1 + (cutS (b + (cutS a n as).1) (cutS a n as).2 bs).1, b + (cutS a n as).1 + (cutS (b + (cutS a n as).1) (cutS a n as).2 bs).1, (cutS (b + (cutS a n as).1) (cutS a n as).2 bs).2)
/-- What is left is what lies in both. -/
theorem bothS_spec {a as b bs n : Int} (ha : 1 ≤ as) (hb : 1 ≤ bs) (hb2 : bs ≤ 1048576) (ha' : i64r a) (hb' : i64r b) :
    0 ≤ (bothS a as b bs n).2.2 ∧ (bothS a as b bs n).2.2 ≤ bs ∧
    ((bothS a as b bs n).2.2 ≠ 0 → 0 ≤ (bothS a as b bs n).1 ∧ (bothS a as b bs n).1 + (bothS a as b bs n).2.2 ≤ as ∧ 0 ≤ (bothS a as b bs n).2.1 ∧ (bothS a as b bs n).2.1 + (bothS a as b bs n).2.2 ≤ bs ∧ (bothS a as b bs n).1 - a = (bothS a as b bs n).2.1 - b) ∧
    ∀ i, (0 ≤ i ∧ i < n ∧ 0 ≤ a + i ∧ a + i < as ∧ 0 ≤ b + i ∧ b + i < bs) ↔ ((bothS a as b bs n).2.2 ≠ 0 ∧ (bothS a as b bs n).2.1 - b ≤ i ∧ i < (bothS a as b bs n).2.1 - b + (bothS a as b bs n).2.2) := by
  have r1 := cutS_rng (off := a) (n := n) (size := as) ha
  have z1 := fun i : Int => cutS_spec (off := a) (n := n) (size := as) (i := i) (by omega)
  unfold bothS
  generalize cutS a n as = c1 at *
  obtain ⟨s1, l1⟩ := c1
  dsimp only at r1 z1 ⊢
  unfold i64r at ha' hb'
  split
  · rename_i h
    refine ⟨by dsimp only; omega, by dsimp only; omega, fun h => absurd rfl h, fun i => ⟨fun hi => ?_, fun hi => absurd rfl hi.1⟩⟩
    have := (z1 i).1 (by omega)
    omega
  · rename_i h
    have r2 := cutS_rng (off := b + s1) (n := l1) (size := bs) hb
    have z2 := fun i : Int => cutS_spec (off := b + s1) (n := l1) (size := bs) (i := i) (by omega)
    generalize cutS (b + s1) l1 bs = c2 at *
    obtain ⟨s2, l2⟩ := c2
    dsimp only at r2 z2 ⊢
    refine ⟨by omega, by omega, fun h2 => ?_, fun i => ?_⟩
    · have := r2.2.2.2.1 h2; have := r1.2.2.2.1 (by omega); omega
    · have a1 := z1 i
      have a2 := z2 (i - s1)
      constructor
      · intro hi
        have b1 := a1.1 (by omega)
        have b2 := a2.1 (by omega)
        omega
      · rintro ⟨h1, h2, h3⟩
        have b2 := a2.2 (by omega)
        have b1 := a1.2 (by omega)
        omega
theorem both_ct (hp : HasBm P) {a as b bs n : Int} (ha : 1 ≤ as ∧ as ≤ 1048576) (hb : 1 ≤ bs ∧ bs ≤ 1048576) (ha' : i64r a) (hb' : i64r b) (hn : i64r n)
    (hQ : Q (.ret (.tup [.int .i64 (bothS a as b bs n).1, .int .i64 (bothS a as b bs n).2.1, .int .i64 (bothS a as b bs n).2.2])) H) : Call P 54 [.int .i64 a, .int .i64 as, .int .i64 b, .int .i64 bs, .int .i64 n] H Q := by
  have r1 := cutS_rng (off := a) (n := n) (size := as) ha.1
  have k1 := cutS_skip (off := a) (n := n) (size := as) ha'
  have m1 : (cutS a n as).1 ≠ 0 → (cutS a n as).1 = -a ∧ a < 0 := cutS_lt
  unfold bothS at hQ
  refine call_of hp.h_bitmap_both rfl ?_
  simp -implicitDefEqProofs -dsimp (disch := omega) only [go_sem, dec_t, dec_f, ]
  refine cut_ct hp ha' hn (by omega) ?_
  generalize cutS a n as = c1 at *
  obtain ⟨s1, l1⟩ := c1
  dsimp only at r1 k1 hQ m1
  unfold i64r at ha' hb' hn
  have hs1 : l1 ≠ 0 → s1 ≤ 9223372036854775807 := fun h => by have := r1.2.2.2.1 h; omega
  by_cases c : l1 = 0
  · rw [if_pos (Or.inl c)] at hQ
    simp -implicitDefEqProofs -dsimp (disch := omega) only [go_sem, dec_t, dec_f, w64]; exact hQ
  · have hs1 := hs1 c
    by_cases d : 9223372036854775807 - s1 < b
    · rw [if_pos (Or.inr d)] at hQ
      simp -implicitDefEqProofs -dsimp (disch := omega) only [go_sem, dec_t, dec_f, w64]; exact hQ
    · rw [if_neg (fun e => e.elim c d)] at hQ
      have ho : i64r (b + s1) := by unfold i64r; omega
      have k2 := cutS_skip (off := b + s1) (n := l1) (size := bs) ho
      have r2 := cutS_rng (off := b + s1) (n := l1) (size := bs) hb.1
      simp -implicitDefEqProofs -dsimp (disch := omega) only [go_sem, dec_t, dec_f, w64]
      refine cut_ct hp ho (by omega) (by omega) ?_
      have m2 : (cutS (b + s1) l1 bs).1 ≠ 0 → (cutS (b + s1) l1 bs).1 = -(b + s1) ∧ b + s1 < 0 := cutS_lt
      generalize cutS (b + s1) l1 bs = c2 at *
      obtain ⟨s2, l2⟩ := c2
      dsimp only at r2 k2 hQ m2
      simp -implicitDefEqProofs -dsimp (disch := omega) only [go_sem, dec_t, dec_f, w64]
      exact hQ
end
end Go.Ab
/- Blit: a part of a map is laid onto a map. Conditions: none. -/
namespace Go.Ab

/-- l[lo:hi:max]. -/
theorem slc_lhm (esz b o len cap : Nat) (k k' k'' : IntKind) (l h x : Int) (H : Heap) (hh : 0 ≤ l ∧ l ≤ h ∧ h ≤ x ∧ x ≤ cap) :
    slc2 esz (some (.sl (some (b, o)) len cap esz)) (some (some (.int k l))) (some (some (.int k' h))) (some (some (.int k'' x))) H = some (.sl (some (b, o + l.toNat * esz)) (h.toNat - l.toNat) (x.toNat - l.toNat) esz, H) := by
  simp only [slc2, bound, Option.isSome_some, Bool.true_and, bne_self_eq_false, Bool.false_eq_true, if_false]
  rw [if_pos (show 0 ≤ x ∧ x ≤ cap by omega)]; simp only []
  rw [if_pos (show 0 ≤ h ∧ h ≤ (x.toNat : Int) by omega)]; simp only []
  rw [if_pos (show 0 ≤ l ∧ l ≤ (h.toNat : Int) by omega)]
theorem Hs.cpyFull {H : Heap} {rb n : Nat} {L M : List V} {y : V} {R : List As} (h : Hs H (Lst (.sl (some (rb, 0)) n n 1) 1 n L :: R)) (hy : firsts H 1 y = some (n, M)) (hM : M.length = n) (ho : M.all one = true) (hn : 0 < n) :
    ∃ H', cpy H 1 (.sl (some (rb, 0)) n n 1) y = some (.int .i64 n, H') ∧ Hs H' (Lst (.sl (some (rb, 0)) n n 1) 1 n M :: R) := by
  have hown := h.own
  rcases hown with ⟨e, _⟩ | ⟨b, e, hg, hl, hb⟩
  · cases e
  · cases e
    refine ⟨H.put rb (.cells M true), ?_, h.lst' (Same.put rfl) (Or.inr ⟨rb, rfl, by simp [get_put], by omega, hb⟩) fun b hb => Or.inl hb⟩
    have e1 : over L 0 M = M := by unfold over; rw [List.take_zero, List.drop_eq_nil_of_le (by omega)]; simp
    have e2 : M.take (n * 1) = M := List.take_of_length_le (by omega)
    simp only [cpy, hy, Option.isSome_some, Bool.true_and, bne_self_eq_false, Bool.false_eq_true, if_false, Nat.min_self]
    rw [if_neg (by omega), e2, wr_s hg, if_pos (by omega), if_pos ho, e1]; rfl

/-- Of a line the words up to i are laid. -/
def lineP (p : Nat → Nat → Bool) (L : List Nat) (sx dx n y i op : Nat) : Nat → Nat → Bool := fun i' j' => if j' = y ∧ dx ≤ i' ∧ i' < dx + n ∧ i' / 64 < i then opB op (p i' j') (rowB L ((sx : Int) + i' - dx)) else p i' j'
def rho (sy dy hn t : Nat) : Nat := if sy < dy then hn - 1 - t else t
/-- So many lines are laid. -/
def linesP (p q : Nat → Nat → Bool) (sx sy dx dy n hn op t : Nat) : Nat → Nat → Bool :=
  fun i' j' => if dx ≤ i' ∧ i' < dx + n ∧ dy ≤ j' ∧ j' < dy + hn ∧ (if sy < dy then hn - t ≤ j' - dy else j' - dy < t) then opB op (p i' j') (q (sx + i' - dx) (sy + j' - dy)) else p i' j'

def BlF (m s sx sy n hn dx dy op : Nat) (rv : V) (mid : List (Nat × V)) (t : Nat) : Fr :=
  ⟨(0, .ptr (some (m, 0))) :: (1, .ptr (some (s, 0))) :: (2, .int .i64 sx) :: (3, .int .i64 sy) :: (4, .int .i64 n) :: (5, .int .i64 hn) :: (6, .int .i64 dx) :: (7, .int .i64 dy) :: (19, .fn (57 + op) [] []) :: (20, rv) :: (mid ++ [(90, .int .i64 hn), (91, .int .i64 t)]), []⟩
def BlI (m w h sw rb s sx sy n hn dx dy op : Nat) (p q : Nat → Nat → Bool) (R : List As) (k : Nat) (fr : Fr) (H : Heap) : Prop :=
  ∃ (t : Nat) (L : List Nat), k = hn - t ∧ t ≤ hn ∧ fr = BlF m s sx sy n hn dx dy op (.sl (some (rb, 0)) (wds sw) (wds sw) 1) [] t ∧ L.length = wds sw ∧
    Hs H (MapA m w h (linesP p q sx sy dx dy n hn op t) :: Lst (.sl (some (rb, 0)) (wds sw) (wds sw) 1) 1 (wds sw) (u64s L) :: R)
def BlJ (m w h sw rb s sx sy n hn dx dy op y t ρ : Nat) (p : Nat → Nat → Bool) (L : List Nat) (R : List As) (k : Nat) (fr : Fr) (H : Heap) : Prop :=
  ∃ i : Nat, k = (dx + n - 1) / 64 + 1 - i ∧ dx / 64 ≤ i ∧ i ≤ (dx + n - 1) / 64 + 1 ∧ fr = BlF m s sx sy n hn dx dy op (.sl (some (rb, 0)) (wds sw) (wds sw) 1) [(21, .int .i64 ρ), (23, .int .i64 i)] t ∧
    Hs H (MapA m w h (lineP p L sx dx n y i op) :: Lst (.sl (some (rb, 0)) (wds sw) (wds sw) 1) 1 (wds sw) (u64s L) :: R)

section
variable {P : Prog} {H : Heap} {R : List As} {Q : Out → Heap → Prop} {m w h : Nat}

theorem blit_line (hp : HasBm P) {p : Nat → Nat → Bool} {sw rb s sx sy n hn dx dy op t ρ y : Nat} {L : List Nat} (hs : Hs H (MapA m w h p :: Lst (.sl (some (rb, 0)) (wds sw) (wds sw) 1) 1 (wds sw) (u64s L) :: R))
    (hL : ∀ k ∈ L, k < 18446744073709551616) (hl : L.length = wds sw) (hn1 : 1 ≤ n) (hdx : dx + n ≤ w) (hy : y = dy + ρ) (hyh : y < h) (hsx : sx + n ≤ sw) (hsw : sw ≤ 1048576) (hop : op < 5) {Qp : Post}
    (hQ : ∀ H', Hs H' (MapA m w h (lineP p L sx dx n y ((dx + n - 1) / 64 + 1) op) :: Lst (.sl (some (rb, 0)) (wds sw) (wds sw) 1) 1 (wds sw) (u64s L) :: R) → ∀ fr, (∃ ex, fr = ⟨(BlF m s sx sy n hn dx dy op (.sl (some (rb, 0)) (wds sw) (wds sw) 1) [(21, .int .i64 ρ), (23, .int .i64 ((dx + n - 1) / 64 + 1 : Nat))] t).tm ++ ex, []⟩) → Qp (.exit 3) fr H') {s' t'} :
    loopL (Call P) [0, 1, 2, 3, 4, 5, 6, 7, 19, 20, 21, 23, 90, 91] bitmap_Map_Blit_l1 Qp s' t' (BlF m s sx sy n hn dx dy op (.sl (some (rb, 0)) (wds sw) (wds sw) 1) [(21, .int .i64 ρ), (23, .int .i64 (dx / 64 : Nat))] t) H := by
  obtain ⟨z1, z2, z3, z4, z5⟩ := mapSz hs
  have hstart : lineP p L sx dx n y (dx / 64) op = p := by
    funext i' j'; unfold lineP; rw [if_neg (by omega)]
  refine loop_inv (BlJ m w h sw rb s sx sy n hn dx dy op y t ρ p L R) ?_ _ _ _ ⟨dx / 64, rfl, by omega, by omega, rfl, by rw [hstart]; exact hs⟩
  rintro k2 fr2 H2 ⟨i, hk2, hi1, hi2, rfl, h2⟩
  generalize hK2 : rnd (BlJ m w h sw rb s sx sy n hn dx dy op y t ρ p L R) k2 = K2
  have ex2 : ((dx : Int) + n - 1) / 64 = (((dx + n - 1) / 64 : Nat) : Int) := by omega
  by_cases hil : i ≤ (dx + n - 1) / 64
  · obtain ⟨b, kv⟩ := mapV h2
    have hiw : i < wds w := by unfold wds; omega
    have hidx := word_at hyh hiw
    have hjj : y * wds w ≤ h * wds w := Nat.mul_le_mul_right _ (by omega)
    have hww := kv.words
    have e3 : (y : Int) * ((wds w : Nat) : Int) = ((y * wds w : Nat) : Int) := (Int.natCast_mul _ _).symm
    have e4 : (dy : Int) + (ρ : Int) = (y : Int) := by omega
    have hr := kv.rd y i hyh hiw
    have hW := word_lt w (lineP p L sx dx n y i op) y i
    have hm := maskN_lt (dx - 64 * i) (min (dx + n - 64 * i) 64)
    simp -implicitDefEqProofs -dsimp (disch := omega) only [go_sem, dec_t, dec_f, BlF, bitmap_Map_Blit_l1, w64, tdivN, ex2, rd_s kv.cell, e4, e3, cadd, Int.toNat_natCast, Nat.mul_one, hr]
    refine mask_ct hp (by omega) hil (by omega) (by omega) ?_
    simp -implicitDefEqProofs -dsimp (disch := omega) only [go_sem, dec_t, dec_f, hr, dif64 hW hm, w64]
    have hwl : wds sw ≤ 1048576 := by unfold wds; omega
    have harr : Arr H2 (.sl (some (rb, 0)) (wds sw) (wds sw) 1) 1 L.length (u64s L) := by rw [hl]; exact h2.p1.own.arr
    refine word_ct hp harr hL (by omega) (x := (sx : Int) + 64 * i - dx) (by omega) fun N hN hNb => ?_
    simp -implicitDefEqProofs -dsimp (disch := omega) only [go_sem, dec_t, dec_f, ]
    refine aft_intro (t := tag _) (by simp [rechecks, recheck, fresh, Fr.get, Fr.put, look, step, opd, hr]) ?_
    simp -implicitDefEqProofs -dsimp (disch := omega) only [go_sem, dec_t, dec_f, ]
    refine does_ct hp hop hW hN ?_
    have hO := opW_lt (op := op) hW hN
    simp -implicitDefEqProofs -dsimp (disch := omega) only [go_sem, dec_t, dec_f, ]
    refine aft_intro (t := tag _) (by simp [rechecks, recheck, fresh, Fr.get, Fr.put, look, step, opd, hr]) ?_
    have ha : bitop .and .u64 ((opW op (word w (lineP p L sx dx n y i op) y i) N : Nat) : Int) ((maskN (dx - 64 * i) (min (dx + n - 64 * i) 64) : Nat) : Int) = ((opW op (word w (lineP p L sx dx n y i op) y i) N &&& maskN (dx - 64 * i) (min (dx + n - 64 * i) 64) : Nat) : Int) := and64 hO hm
    have ho : bitop .or .u64 ((dif (word w (lineP p L sx dx n y i op) y i) (maskN (dx - 64 * i) (min (dx + n - 64 * i) 64)) : Nat) : Int) ((opW op (word w (lineP p L sx dx n y i op) y i) N &&& maskN (dx - 64 * i) (min (dx + n - 64 * i) 64) : Nat) : Int) =
      ((dif (word w (lineP p L sx dx n y i op) y i) (maskN (dx - 64 * i) (min (dx + n - 64 * i) 64)) ||| (opW op (word w (lineP p L sx dx n y i op) y i) N &&& maskN (dx - 64 * i) (min (dx + n - 64 * i) 64)) : Nat) : Int) := or64 (dif_lt hW) (and_lt hO)
    obtain ⟨H3, hw3, h3, hm3⟩ := kv.wr y i (dif (word w (lineP p L sx dx n y i op) y i) (maskN (dx - 64 * i) (min (dx + n - 64 * i) 64)) ||| (opW op (word w (lineP p L sx dx n y i op) y i) N &&& maskN (dx - 64 * i) (min (dx + n - 64 * i) 64))) (lineP p L sx dx n y (i + 1) op) hyh hiw (or_lt (dif_lt hW) (and_lt hO)) (fun k hk => by
        rw [wb_or, wb_and, wb_dif hk, wb_maskN hk, wb_opW hk, hNb k hk, wb_word hk]
        unfold lineP
        by_cases c : dx ≤ 64 * i + k ∧ 64 * i + k < dx + n
        · rw [decide_eq_true (show dx - 64 * i ≤ k ∧ k < min (dx + n - 64 * i) 64 by omega), decide_eq_true (show 64 * i + k < w by omega), if_neg (show ¬ (y = y ∧ dx ≤ 64 * i + k ∧ 64 * i + k < dx + n ∧ (64 * i + k) / 64 < i) by omega), if_pos (show y = y ∧ dx ≤ 64 * i + k ∧ 64 * i + k < dx + n ∧ (64 * i + k) / 64 < i + 1 by omega)]
          simp only [Bool.true_and, Bool.not_true, Bool.and_false, Bool.false_or, Bool.and_true]
          rw [show (sx : Int) + 64 * (i : Int) - (dx : Int) + (k : Int) = (sx : Int) + ((64 * i + k : Nat) : Int) - (dx : Int) by omega]
        · rw [decide_eq_false (show ¬ (dx - 64 * i ≤ k ∧ k < min (dx + n - 64 * i) 64) by omega), if_neg (fun e => c ⟨e.2.1, e.2.2.1⟩), if_neg (fun e => c ⟨e.2.1, e.2.2.1⟩)]; simp) (fun x' y' _ _ hne => by
        unfold lineP
        by_cases d : y' = y ∧ dx ≤ x' ∧ x' < dx + n ∧ x' / 64 < i
        · rw [if_pos d, if_pos (by omega)]
        · rw [if_neg d, if_neg (by rintro ⟨d1, d2, d3, d4⟩; exact d ⟨d1, d2, d3, by rcases hne with h | h; exact absurd d1 h; omega⟩)])
    simp -implicitDefEqProofs -dsimp (disch := omega) only [go_sem, dec_t, dec_f, ha, ho, hw3, w64, cadd1]
    subst hK2
    exact rnd_n ((dx + n - 1) / 64 + 1 - (i + 1)) (by omega) ⟨i + 1, rfl, by omega, by omega, rfl, h3⟩
  · obtain rfl : i = (dx + n - 1) / 64 + 1 := by omega
    simp -implicitDefEqProofs -dsimp (disch := omega) only [go_sem, dec_t, dec_f, BlF, bitmap_Map_Blit_l1, w64, tdivN, ex2]
    subst hK2
    exact hQ H2 h2 _ ⟨_, rfl⟩

theorem rowB_words {L : List Nat} {sw y : Nat} {q : Nat → Nat → Bool} (hl : L.length = wds sw) (hw : ∀ i, i < wds sw → L[i]? = some (word sw q y i)) {z : Nat} (hz : z < sw) : rowB L (z : Int) = q z y := by
  unfold rowB
  rw [decide_eq_true (by omega), Bool.true_and, Int.toNat_natCast, List.getD_eq_getElem?_getD, hw _ (wds_of hz), Option.getD_some, wb_word (Nat.mod_lt _ (by omega)), show 64 * (z / 64) + z % 64 = z by omega, decide_eq_true hz]; rfl

theorem blit_out (hp : HasBm P) {p q : Nat → Nat → Bool} {sw sh rb s sx sy n hn dx dy op : Nat} {L0 : List Nat} (hs : Hs H (MapA m w h p :: Lst (.sl (some (rb, 0)) (wds sw) (wds sw) 1) 1 (wds sw) (u64s L0) :: R)) (hl0 : L0.length = wds sw)
    (hn1 : 1 ≤ n) (hh1 : 1 ≤ hn) (hdx : dx + n ≤ w) (hdy : dy + hn ≤ h) (hsx : sx + n ≤ sw) (hsy : sy + hn ≤ sh) (hsz : sw * sh ≤ 1048576) (hop : op < 5)
    (hsrc : ∀ (t : Nat) (L : List Nat) (H' : Heap), t < hn → L.length = wds sw → Hs H' (MapA m w h (linesP p q sx sy dx dy n hn op t) :: Lst (.sl (some (rb, 0)) (wds sw) (wds sw) 1) 1 (wds sw) (u64s L) :: R) →
      ∃ sb l, H'.get s = .cells [.int .i64 sw, .int .i64 sh, .int .i64 (wds sw), .sl (some (sb, 0)) (sh * wds sw) (sh * wds sw) 1] true ∧ H'.get sb = .cells l true ∧ l.length = sh * wds sw ∧
        ∀ i, i < wds sw → l[(sy + rho sy dy hn t) * wds sw + i]? = some (.int .u64 (word sw q (sy + rho sy dy hn t) i : Nat))) {Qp : Post}
    (hQ : ∀ fr H', fr.ds = [] → Hs H' (MapA m w h (linesP p q sx sy dx dy n hn op hn) :: R) → Qp (.exit 1) fr H') {s' t'} :
    loopL (Call P) [0, 1, 2, 3, 4, 5, 6, 7, 19, 20, 90, 91] bitmap_Map_Blit_l0 Qp s' t' (BlF m s sx sy n hn dx dy op (.sl (some (rb, 0)) (wds sw) (wds sw) 1) [] 0) H := by
  obtain ⟨z1, z2, z3, z4, z5⟩ := mapSz hs
  have hsw : sw ≤ 1048576 := by have := Nat.le_mul_of_pos_right sw (show 0 < sh by omega); omega
  have hsh : sh ≤ 1048576 := by have := Nat.le_mul_of_pos_left sh (show 0 < sw by omega); omega
  have hwd : 0 < wds sw := by unfold wds; omega
  have hww : sh * wds sw ≤ 1048576 := wds_le hsz (by omega)
  have hstart : linesP p q sx sy dx dy n hn op 0 = p := by
    funext i' j'; unfold linesP; rw [if_neg]; rintro ⟨_, _, h3, h4, h5⟩; split at h5 <;> omega
  refine loop_inv (BlI m w h sw rb s sx sy n hn dx dy op p q R) ?_ hn _ _ ⟨0, L0, by omega, by omega, rfl, hl0, by rw [hstart]; exact hs⟩
  rintro k fr H1 ⟨t, L, hk, ht, rfl, hl, h1⟩
  generalize hK : rnd (BlI m w h sw rb s sx sy n hn dx dy op p q R) k = K
  by_cases htn : t < hn
  · obtain ⟨sb, l, c1, c2, c3, c4⟩ := hsrc t L H1 htn hl h1
    have hρ : rho sy dy hn t < hn := by unfold rho; split <;> omega
    have hat : (sy + rho sy dy hn t) * wds sw + wds sw ≤ sh * wds sw := by
      have : (sy + rho sy dy hn t + 1) * wds sw ≤ sh * wds sw := Nat.mul_le_mul_right _ (by omega)
      rwa [Nat.add_mul, Nat.one_mul] at this
    let M : List Nat := (List.range (wds sw)).map fun i => word sw q (sy + rho sy dy hn t) i
    have hMl : M.length = wds sw := by simp [M]
    have hM4 : ∀ i, i < wds sw → M[i]? = some (word sw q (sy + rho sy dy hn t) i) := fun i hi => by simp [M, hi]
    have hMb : ∀ k ∈ M, k < 18446744073709551616 := fun k hk => by
      simp only [M, List.mem_map] at hk; obtain ⟨i, _, rfl⟩ := hk; exact word_lt _ _ _ _
    have hfirst : firsts H1 1 (.sl (some (sb, (sy + rho sy dy hn t) * wds sw)) (wds sw) (wds sw) 1) = some (wds sw, u64s M) := by
      simp only [firsts, c2, if_true, piece]
      rw [if_pos (by omega)]
      simp only [Option.map_some]
      congr 2
      refine List.ext_getElem? fun i => ?_
      by_cases hi : i < wds sw
      · rw [List.getElem?_take, if_pos (by omega), List.getElem?_drop, c4 i hi]
        simp only [u64s, List.getElem?_map, hM4 i hi, Option.map_some]
      · rw [List.getElem?_eq_none (by simp; omega), List.getElem?_eq_none (by simp [u64s, hMl]; omega)]
    obtain ⟨H2, a2, h2⟩ := h1.p1.cpyFull hfirst (by simp [u64s, hMl]) (u64s_one M) hwd
    generalize hρ' : rho sy dy hn t = ρ at *
    have e3 : ((sy + ρ : Nat) : Int) * ((wds sw : Nat) : Int) = (((sy + ρ) * wds sw : Nat) : Int) := (Int.natCast_mul _ _).symm
    have e5 : (((sy + ρ) * wds sw : Nat) : Int) + ((wds sw : Nat) : Int) = (((sy + ρ) * wds sw + wds sw : Nat) : Int) := rfl
    have e6 : (dx : Int) / 64 = ((dx / 64 : Nat) : Int) := rfl
    have e7 : ∀ (o : Nat), slc2 1 (some (.sl (some (sb, 0)) (sh * wds sw) (sh * wds sw) 1)) (some (some (.int .i64 ((sy + ρ) * wds sw : Nat)))) (some (some (.int .i64 ((sy + ρ) * wds sw + wds sw : Nat)))) (some (some (.int .i64 ((sy + ρ) * wds sw + wds sw : Nat)))) H1 = some (.sl (some (sb, (sy + ρ) * wds sw)) (wds sw) (wds sw) 1, H1) := fun o => by
      rw [slc_lhm _ _ _ _ _ _ _ _ _ _ _ _ (by omega)]
      simp only [Int.toNat_natCast, Nat.zero_add, Nat.mul_one, Nat.add_sub_cancel_left]
    rcases (show (sy < dy ∧ ρ = hn - 1 - t) ∨ (¬ sy < dy ∧ ρ = t) by unfold rho at hρ'; split at hρ' <;> omega) with ⟨d1, d2⟩ | ⟨d1, d2⟩
    · have er : (hn : Int) - 1 - (t : Int) = (ρ : Int) := by omega
      simp -implicitDefEqProofs -dsimp (disch := omega) only [go_sem, dec_t, dec_f, BlF, bitmap_Map_Blit_l0, w64, er, cadd, rd_s c1, e3, e5, e7 0, a2, tdivN, e6]
      refine blit_line hp h2.p1 hMb hMl hn1 hdx rfl (by omega) hsx hsw hop fun H3 h3 fr hfr => ?_
      obtain ⟨ex, rfl⟩ := hfr
      simp -implicitDefEqProofs -dsimp (disch := omega) only [go_sem, dec_t, dec_f, BlF, w64, cadd1]
      subst hK
      refine rnd_n (hn - (t + 1)) (by omega) ⟨t + 1, M, rfl, by omega, rfl, hMl, ?_⟩
      refine h3.mapc fun i' j' hi' hj' => ?_
      unfold lineP linesP
      by_cases c : j' = dy + ρ ∧ dx ≤ i' ∧ i' < dx + n
      · rw [if_pos (by omega), if_neg (by rintro ⟨_, _, _, _, g⟩; rw [if_pos d1] at g; omega), if_pos (by refine ⟨by omega, by omega, by omega, by omega, ?_⟩; rw [if_pos d1]; omega)]
        rw [show (sx : Int) + i' - dx = ((sx + i' - dx : Nat) : Int) by omega, rowB_words hMl hM4 (by omega), show sy + j' - dy = sy + ρ by omega]
      · rw [if_neg (by omega)]
        by_cases g : dx ≤ i' ∧ i' < dx + n ∧ dy ≤ j' ∧ j' < dy + hn ∧ (if sy < dy then hn - t ≤ j' - dy else j' - dy < t)
        · rw [if_pos g, if_pos]; refine ⟨g.1, g.2.1, g.2.2.1, g.2.2.2.1, ?_⟩
          have := g.2.2.2.2; rw [if_pos d1] at this ⊢; omega
        · rw [if_neg g, if_neg]; rintro ⟨g1, g2, g3, g4, g5⟩; refine g ⟨g1, g2, g3, g4, ?_⟩
          rw [if_pos d1] at g5 ⊢; omega
    · subst d2
      simp -implicitDefEqProofs -dsimp (disch := omega) only [go_sem, dec_t, dec_f, BlF, bitmap_Map_Blit_l0, w64, cadd, rd_s c1, e3, e5, e7 0, a2, tdivN, e6]
      refine blit_line (ρ := ρ) (y := dy + ρ) (t := ρ) (h := h) (w := w) hp h2.p1 hMb hMl hn1 hdx rfl (by omega) hsx hsw hop fun H3 h3 fr hfr => ?_
      obtain ⟨ex, rfl⟩ := hfr
      simp -implicitDefEqProofs -dsimp (disch := omega) only [go_sem, dec_t, dec_f, BlF, w64, cadd1]
      subst hK
      refine rnd_n (hn - (ρ + 1)) (by omega) ⟨ρ + 1, M, rfl, by omega, rfl, hMl, ?_⟩
      refine h3.mapc fun i' j' hi' hj' => ?_
      unfold lineP linesP
      by_cases c : j' = dy + ρ ∧ dx ≤ i' ∧ i' < dx + n
      · rw [if_pos (by omega), if_neg (by rintro ⟨_, _, _, _, g⟩; rw [if_neg d1] at g; omega), if_pos (by refine ⟨by omega, by omega, by omega, by omega, ?_⟩; rw [if_neg d1]; omega)]
        rw [show (sx : Int) + i' - dx = ((sx + i' - dx : Nat) : Int) by omega, rowB_words hMl hM4 (by omega), show sy + j' - dy = sy + ρ by omega]
      · rw [if_neg (by omega)]
        by_cases g : dx ≤ i' ∧ i' < dx + n ∧ dy ≤ j' ∧ j' < dy + hn ∧ (if sy < dy then hn - ρ ≤ j' - dy else j' - dy < ρ)
        · rw [if_pos g, if_pos]; refine ⟨g.1, g.2.1, g.2.2.1, g.2.2.2.1, ?_⟩
          have := g.2.2.2.2; rw [if_neg d1] at this ⊢; omega
        · rw [if_neg g, if_neg]; rintro ⟨g1, g2, g3, g4, g5⟩; refine g ⟨g1, g2, g3, g4, ?_⟩
          rw [if_neg d1] at g5 ⊢; omega
  · obtain rfl : t = hn := by omega
    simp -implicitDefEqProofs -dsimp (disch := omega) only [go_sem, dec_t, dec_f, BlF, bitmap_Map_Blit_l0]
    subst hK
    exact hQ _ H1 rfl h1.p1.tail
end
end Go.Ab
/- Blit, as a whole. Conditions: none. -/
namespace Go.Ab

def blitR (ww hh op : Int) : Int := if ww < 0 ∨ hh < 0 then 24 else if op < 0 ∨ 4 < op then 25 else 0
/-- What lies in both becomes what the operation makes of both. -/
def blitP (p q : Nat → Nat → Bool) (sw sh : Nat) (sx sy ww hh dx dy : Int) (op : Nat) : Nat → Nat → Bool := fun i j =>
  if (dx ≤ i ∧ (i : Int) < dx + ww ∧ 0 ≤ sx + (i - dx) ∧ sx + (i - dx) < sw) ∧ dy ≤ j ∧ (j : Int) < dy + hh ∧ 0 ≤ sy + (j - dy) ∧ sy + (j - dy) < sh then opB op (p i j) (q (sx + (i - dx)).toNat (sy + (j - dy)).toNat) else p i j
def srcC (sw sh sb : Nat) : List V := [.int .i64 sw, .int .i64 sh, .int .i64 (wds sw), .sl (some (sb, 0)) (sh * wds sw) (sh * wds sw) 1]

section
variable {P : Prog} {H : Heap} {R : List As} {Q : Out → Heap → Prop} {m w h : Nat} {p : Nat → Nat → Bool}

theorem blit_nil (hp : HasBm P) {m : V} {sx sy ww hh dx dy op : Int} (hQ : Q (.ret (.int .i64 26)) H) : Call P 64 [m, .ptr none, .int .i64 sx, .int .i64 sy, .int .i64 ww, .int .i64 hh, .int .i64 dx, .int .i64 dy, .int .i64 op] H Q := by
  refine call_of hp.h_bitmap_Map_Blit rfl ?_
  simp -implicitDefEqProofs -dsimp (disch := omega) only [go_sem, dec_t, dec_f, ]
  exact hQ

theorem blit_gen (hp : HasBm P) (hs : Hs H (MapA m w h p :: R)) {s sw sh : Nat} {q : Nat → Nat → Bool} (hd : 1 ≤ sw ∧ 1 ≤ sh ∧ sw * sh ≤ 1048576)
    (hc : ∀ H', Hs H' (MapA m w h p :: R) → ∃ sb, H'.get s = .cells (srcC sw sh sb) true)
    (hsrc : ∀ (A B : As) (sx sy dx dy n hn op t : Nat) (H' : Heap), t < hn → dy + hn ≤ h → sy + hn ≤ sh → Hs H' (MapA m w h (linesP p q sx sy dx dy n hn op t) :: A :: B :: R) →
      ∃ sb l, H'.get s = .cells (srcC sw sh sb) true ∧ H'.get sb = .cells l true ∧ l.length = sh * wds sw ∧
        ∀ i, i < wds sw → l[(sy + rho sy dy hn t) * wds sw + i]? = some (.int .u64 (word sw q (sy + rho sy dy hn t) i : Nat)))
    {sx sy ww hh dx dy op : Int} (h1 : i64r sx) (h2 : i64r sy) (h3 : i64r ww) (h4 : i64r hh) (h5 : i64r dx) (h6 : i64r dy) (h7 : i64r op)
    (hQ : ∀ H', Hs H' (MapA m w h (if blitR ww hh op = 0 then blitP p q sw sh sx sy ww hh dx dy op.toNat else p) :: R) → Q (.ret (.int .i64 (blitR ww hh op))) H') :
    Call P 64 [.ptr (some (m, 0)), .ptr (some (s, 0)), .int .i64 sx, .int .i64 sy, .int .i64 ww, .int .i64 hh, .int .i64 dx, .int .i64 dy, .int .i64 op] H Q := by
  obtain ⟨b0, k0⟩ := mapV hs
  obtain ⟨s1, s2, s3, s4, s5⟩ := mapSz hs
  obtain ⟨sb, c0⟩ := hc H hs
  unfold srcC at c0
  have hsw : sw ≤ 1048576 := by have := Nat.le_mul_of_pos_right sw (show 0 < sh by omega); omega
  have hsh : sh ≤ 1048576 := by have := Nat.le_mul_of_pos_left sh (show 0 < sw by omega); omega
  refine call_of hp.h_bitmap_Map_Blit rfl ?_
  have u3 := h3; have u4 := h4; have u7 := h7
  unfold i64r at u3 u4 u7
  by_cases c1 : ww < 0 ∨ hh < 0
  · rw [show blitR ww hh op = 24 by unfold blitR; rw [if_pos c1]] at hQ
    rcases (show ww < 0 ∨ (0 ≤ ww ∧ hh < 0) by omega) with d | d <;>
    · simp -implicitDefEqProofs -dsimp (disch := omega) only [go_sem, dec_t, dec_f, ]; exact hQ H hs
  by_cases c2 : op < 0 ∨ 4 < op
  · rw [show blitR ww hh op = 25 by unfold blitR; rw [if_neg c1, if_pos c2]] at hQ
    rcases (show op < 0 ∨ (0 ≤ op ∧ 4 < op) by omega) with d | d <;>
    · simp -implicitDefEqProofs -dsimp (disch := omega) only [go_sem, dec_t, dec_f, ]; exact hQ H hs
  rw [show blitR ww hh op = 0 by unfold blitR; rw [if_neg c1, if_neg c2], if_pos rfl] at hQ
  obtain ⟨on, rfl⟩ : ∃ on : Nat, op = on := ⟨op.toNat, by omega⟩
  have hon : on < 5 := by omega
  rw [Int.toNat_natCast] at hQ
  have bx := bothS_spec (a := sx) (as := sw) (b := dx) (bs := w) (n := ww) (by omega) (by omega) (by omega) h1 h5
  have bY := bothS_spec (a := sy) (as := sh) (b := dy) (bs := h) (n := hh) (by omega) (by omega) (by omega) h2 h6
  simp -implicitDefEqProofs -dsimp (disch := omega) only [go_sem, dec_t, dec_f, rd_s k0.cell, rd_s c0]
  refine both_ct hp (by omega) (by omega) h1 h5 h3 ?_
  simp -implicitDefEqProofs -dsimp (disch := omega) only [go_sem, dec_t, dec_f, rd_s k0.cell, rd_s c0]
  refine both_ct hp (by omega) (by omega) h2 h6 h4 ?_
  generalize bothS sx sw dx w ww = cx at *
  generalize bothS sy sh dy h hh = cy at *
  obtain ⟨ax, bx', nx⟩ := cx
  obtain ⟨ay, by', ny⟩ := cy
  dsimp only at bx bY
  obtain ⟨x1, x2, x3, x4⟩ := bx
  obtain ⟨y1, y2, y3, y4⟩ := bY
  unfold i64r at h1 h2 h5 h6
  have hval : ∀ i j : Nat, i < w → j < h → blitP p q sw sh sx sy ww hh dx dy on i j = if (nx ≠ 0 ∧ bx' ≤ i ∧ (i : Int) < bx' + nx) ∧ ny ≠ 0 ∧ by' ≤ j ∧ (j : Int) < by' + ny then opB on (p i j) (q (sx + (i - dx)).toNat (sy + (j - dy)).toNat) else p i j := by
    intro i j hi hj
    unfold blitP
    have a1 := x4 ((i : Int) - dx)
    have a2 := y4 ((j : Int) - dy)
    by_cases d : (dx ≤ i ∧ (i : Int) < dx + ww ∧ 0 ≤ sx + (i - dx) ∧ sx + (i - dx) < sw) ∧ dy ≤ j ∧ (j : Int) < dy + hh ∧ 0 ≤ sy + (j - dy) ∧ sy + (j - dy) < sh
    · have e1 := a1.1 (by omega)
      have e2 := a2.1 (by omega)
      rw [if_pos d, if_pos (by omega)]
    · rw [if_neg d, if_neg (fun e => d (by have := a1.2 (by omega); have := a2.2 (by omega); omega))]
  by_cases hz : nx = 0 ∨ ny = 0
  · rcases (show nx = 0 ∨ (nx ≠ 0 ∧ ny = 0) by omega) with d | d <;>
    · simp -implicitDefEqProofs -dsimp (disch := omega) only [go_sem, dec_t, dec_f, ]
      exact hQ H (hs.mapc fun i j hi hj => by rw [hval i j hi hj, if_neg (by omega)])
  have hz1 : nx ≠ 0 := fun e => hz (Or.inl e)
  have hz2 : ny ≠ 0 := fun e => hz (Or.inr e)
  have g1 := x3 hz1
  have g2 := y3 hz2
  obtain ⟨an, rfl⟩ : ∃ an : Nat, ax = an := ⟨ax.toNat, by omega⟩
  obtain ⟨bn, rfl⟩ : ∃ bn : Nat, bx' = bn := ⟨bx'.toNat, by omega⟩
  obtain ⟨n, rfl⟩ : ∃ n : Nat, nx = n := ⟨nx.toNat, by omega⟩
  obtain ⟨cn, rfl⟩ : ∃ cn : Nat, ay = cn := ⟨ay.toNat, by omega⟩
  obtain ⟨dn, rfl⟩ : ∃ dn : Nat, by' = dn := ⟨by'.toNat, by omega⟩
  obtain ⟨hn, rfl⟩ : ∃ hn : Nat, ny = hn := ⟨ny.toNat, by omega⟩
  simp -implicitDefEqProofs -dsimp (disch := omega) only [go_sem, dec_t, dec_f, ]
  refine operations_ct hp hs fun ob H1 hs1 => ?_
  have hoc : rd H1 none ob on = some (.fn (57 + on) [] []) := by
    rw [rd_s hs1.cel]
    rcases (show on = 0 ∨ on = 1 ∨ on = 2 ∨ on = 3 ∨ on = 4 by omega) with rfl | rfl | rfl | rfl | rfl <;> rfl
  obtain ⟨sb1, c1'⟩ := hc H1 hs1.tail
  unfold srcC at c1'
  have hwl : wds sw ≤ 1048576 := by unfold wds; omega
  simp -implicitDefEqProofs -dsimp (disch := omega) only [go_sem, dec_t, dec_f, Int.toNat_natCast, Nat.mul_one, hoc, rd_s c1', reps_u64]
  have hs2 : Hs (H1.new (.cells (u64s (List.replicate (wds sw) 0)) true)) (Lst (.sl (some (H1.next, 0)) (wds sw) (wds sw) 1) 1 (wds sw) (u64s (List.replicate (wds sw) 0)) :: Cel ob [.fn 57 [] [], .fn 58 [] [], .fn 59 [] [], .fn 60 [] [], .fn 61 [] []] :: MapA m w h p :: R) :=
    hs1.lst (Same.new _ _ _) (Or.inr ⟨H1.next, rfl, by simp [get_new], by simp [u64s], by simp [next_new]⟩) fun b hb => by have : b = H1.next := hb; omega
  generalize H1.new (.cells (u64s (List.replicate (wds sw) 0)) true) = H2 at hs2 ⊢
  generalize H1.next = rb at hs2 ⊢
  refine blit_out (q := q) (sh := sh) hp hs2.p2 (by simp) (by omega) (by omega) (by omega) (by omega) (by omega) (by omega) hd.2.2 hon (fun t L H' ht hL h' => hsrc _ _ an cn bn dn n hn on t H' ht (by omega) (by omega) h') fun fr H3 hds h3 => ?_
  obtain ⟨tm, ds⟩ := fr
  cases hds
  simp -implicitDefEqProofs -dsimp (disch := omega) only [go_sem, dec_t, dec_f, ]
  refine hQ H3 ((h3.p1.tail).mapc fun i j hi hj => ?_)
  rw [hval i j hi hj]
  unfold linesP
  by_cases d : bn ≤ i ∧ i < bn + n ∧ dn ≤ j ∧ j < dn + hn
  · rw [if_pos (by refine ⟨d.1, d.2.1, d.2.2.1, d.2.2.2, ?_⟩; split <;> omega), if_pos (by omega), show (sx + ((i : Int) - dx)).toNat = an + i - bn by omega, show (sy + ((j : Int) - dy)).toNat = cn + j - dn by omega]
  · rw [if_neg (fun e => d ⟨e.1, e.2.1, e.2.2.1, e.2.2.2.1⟩), if_neg (by omega)]

/-- From another map. -/
theorem blit_ct (hp : HasBm P) {s sw sh : Nat} {q : Nat → Nat → Bool} (hs : Hs H (MapA m w h p :: MapA s sw sh q :: R)) {sx sy ww hh dx dy op : Int} (h1 : i64r sx) (h2 : i64r sy) (h3 : i64r ww) (h4 : i64r hh) (h5 : i64r dx) (h6 : i64r dy) (h7 : i64r op)
    (hQ : ∀ H', Hs H' (MapA m w h (if blitR ww hh op = 0 then blitP p q sw sh sx sy ww hh dx dy op.toNat else p) :: MapA s sw sh q :: R) → Q (.ret (.int .i64 (blitR ww hh op))) H') :
    Call P 64 [.ptr (some (m, 0)), .ptr (some (s, 0)), .int .i64 sx, .int .i64 sy, .int .i64 ww, .int .i64 hh, .int .i64 dx, .int .i64 dy, .int .i64 op] H Q := by
  obtain ⟨z1, z2, z3, z4, z5⟩ := mapSz hs.p1
  refine blit_gen hp hs (q := q) ⟨z1, z2, z3⟩ (fun H' h' => ?_) (fun A B sx sy dx dy n hn op t H' ht hy1 hy2 h' => ?_) h1 h2 h3 h4 h5 h6 h7 hQ
  · obtain ⟨b, k⟩ := mapV h'.p1
    exact ⟨b, k.cell⟩
  · obtain ⟨b, k⟩ := mapV h'.p3
    have hr : rho sy dy hn t < hn := by unfold rho; split <;> omega
    refine ⟨b, _, k.cell, k.row, by simp [u64s, Wds_length], fun i hi => ?_⟩
    simp only [u64s, List.getElem?_map, Wds_at (show sy + rho sy dy hn t < sh by omega) hi, Option.map_some]
/-- From itself. -/
theorem blit_self (hp : HasBm P) (hs : Hs H (MapA m w h p :: R)) {sx sy ww hh dx dy op : Int} (h1 : i64r sx) (h2 : i64r sy) (h3 : i64r ww) (h4 : i64r hh) (h5 : i64r dx) (h6 : i64r dy) (h7 : i64r op)
    (hQ : ∀ H', Hs H' (MapA m w h (if blitR ww hh op = 0 then blitP p p w h sx sy ww hh dx dy op.toNat else p) :: R) → Q (.ret (.int .i64 (blitR ww hh op))) H') :
    Call P 64 [.ptr (some (m, 0)), .ptr (some (m, 0)), .int .i64 sx, .int .i64 sy, .int .i64 ww, .int .i64 hh, .int .i64 dx, .int .i64 dy, .int .i64 op] H Q := by
  obtain ⟨z1, z2, z3, z4, z5⟩ := mapSz hs
  refine blit_gen hp hs (q := p) ⟨z1, z2, z3⟩ (fun H' h' => ?_) (fun A B sx sy dx dy n hn op t H' ht hy1 hy2 h' => ?_) h1 h2 h3 h4 h5 h6 h7 hQ
  · obtain ⟨b, k⟩ := mapV h'
    exact ⟨b, k.cell⟩
  · obtain ⟨b, k⟩ := mapV h'
    have hr : rho sy dy hn t < hn := by unfold rho; split <;> omega
    refine ⟨b, _, k.cell, k.row, by simp [u64s, Wds_length], fun i hi => ?_⟩
    simp only [u64s, List.getElem?_map, Wds_at (show sy + rho sy dy hn t < h by omega) hi, Option.map_some]
    have e : word w (linesP p p sx sy dx dy n hn op t) (sy + rho sy dy hn t) i = word w p (sy + rho sy dy hn t) i := by
      refine mkw_congr fun k hk => ?_
      congr 1
      unfold linesP
      rw [if_neg]
      rintro ⟨_, _, g3, g4, g5⟩
      unfold rho at g3 g4 g5
      by_cases g6 : sy < dy
      · simp only [if_pos g6] at g3 g4 g5; omega
      · simp only [if_neg g6] at g3 g4 g5; omega
    rw [e]

theorem crop_ct (hp : HasBm P) (hs : Hs H (MapA m w h p :: R)) {x y ww hh : Int} (h1 : i64r x) (h2 : i64r y) (h3 : i64r ww) (h4 : i64r hh)
    (hQ1 : ¬ sizeOk ww hh → Q (.ret (.tup [.ptr none, .int .i64 20])) H)
    (hQ2 : sizeOk ww hh → ∀ c H', Hs H' (MapA c ww.toNat hh.toNat (fun i j => decide ((0 ≤ x + i ∧ x + i < w) ∧ 0 ≤ y + j ∧ y + j < h) && p (x + i).toNat (y + j).toNat) :: MapA m w h p :: R) → Q (.ret (.tup [.ptr (some (c, 0)), .int .i64 0])) H') :
    Call P 65 [.ptr (some (m, 0)), .int .i64 x, .int .i64 y, .int .i64 ww, .int .i64 hh] H Q := by
  refine call_of hp.h_bitmap_Map_Crop rfl ?_
  have u3 := h3; have u4 := h4
  unfold i64r at u3 u4
  simp -implicitDefEqProofs -dsimp (disch := omega) only [go_sem, dec_t, dec_f, ]
  refine new_ct hp hs u3 u4 (fun k => ?_) fun k c H1 g1 _ => ?_
  · simp -implicitDefEqProofs -dsimp (disch := omega) only [go_sem, dec_t, dec_f, ]
    exact hQ1 k
  · have hQ2 := hQ2 k
    obtain ⟨z1, z2, z3⟩ := k
    simp -implicitDefEqProofs -dsimp (disch := omega) only [go_sem, dec_t, dec_f, ]
    refine blit_ct hp g1 h1 h2 h3 h4 (by unfold i64r; omega) (by unfold i64r; omega) (by unfold i64r; omega) fun H2 g2 => ?_
    have e : blitR ww hh 4 = 0 := by unfold blitR; rw [if_neg (by omega), if_neg (by omega)]
    rw [e, if_pos rfl] at g2
    rw [e]
    simp -implicitDefEqProofs -dsimp (disch := omega) only [go_sem, dec_t, dec_f, ]
    refine hQ2 c H2 (g2.mapc fun i j hi hj => ?_)
    unfold blitP
    by_cases d : (0 ≤ x + i ∧ x + i < w) ∧ 0 ≤ y + j ∧ y + j < h
    · rw [decide_eq_true d, if_pos (by omega), show x + ((i : Int) - 0) = x + i by omega, show y + ((j : Int) - 0) = y + j by omega]; rfl
    · rw [decide_eq_false d, if_neg (by omega)]; rfl
end
end Go.Ab
/- Invert: a map's words, opened and closed again. Conditions: none. -/
namespace Go.Ab

theorem Hs.cut {H : Heap} {A B C : As} {R : List As} (h : Hs H (A :: R)) (k : ∀ F, A.ok F H → ∃ F1 F2, B.ok F1 H ∧ C.ok F2 H ∧ (∀ b, F1 b → ¬ F2 b) ∧ ∀ b, F1 b ∨ F2 b ↔ F b) : Hs H (B :: C :: R) := by
  obtain ⟨F, h1, h2, h3⟩ := h
  obtain ⟨F1, F2, k1, k2, k3, k4⟩ := k F h1
  exact ⟨F1, k1, fun _ _ h => h, F2, k2, fun b hb hg => hg.elim id fun h => k3 b h hb, h3.mono fun b hb => by
    rcases hb with (h | h) | h
    · exact Or.inl h
    · exact Or.inr ((k4 b).1 (Or.inl h))
    · exact Or.inr ((k4 b).1 (Or.inr h))⟩

def mapC (w h b : Nat) : List V := [.int .i64 w, .int .i64 h, .int .i64 (wds w), .sl (some (b, 0)) (h * wds w) (h * wds w) 1]
section
variable {P : Prog} {H : Heap} {R : List As} {Q : Out → Heap → Prop} {m w h : Nat} {p : Nat → Nat → Bool}

theorem map_open (hs : Hs H (MapA m w h p :: R)) : ∃ b, b ≠ m ∧ Hs H (Cel m (mapC w h b) :: Cel b (u64s (Wds w h p)) :: R) := by
  obtain ⟨F, v, hF, k⟩ := hs.head
  obtain ⟨b, hv, hne, hg, hlt⟩ := k.row
  refine ⟨b, hne, hs.cut fun F' ⟨v', k1, k2⟩ => ?_⟩
  have ev : v' = v := by have := k2.cell; rw [k.cell] at this; cases this; rfl
  subst ev
  refine ⟨fun x => x = m, fun x => x = b, ⟨fun _ => Iff.rfl, by rw [k.cell, hv]; rfl, k.lt⟩, ⟨fun _ => Iff.rfl, hg, hlt⟩, fun x e1 e2 => hne (e2.symm.trans e1), fun x => ?_⟩
  rw [k1 x, hv]; exact Iff.rfl
theorem map_close {b : Nat} (hs : Hs H (Cel m (mapC w h b) :: Cel b (u64s (Wds w h p)) :: R)) (h1 : 1 ≤ w ∧ 1 ≤ h ∧ w * h ≤ 1048576) : Hs H (MapA m w h p :: R) :=
  hs.merge fun F G ⟨f1, f2, f3⟩ ⟨g1, g2, g3⟩ hd => ⟨.sl (some (b, 0)) (h * wds w) (h * wds w) 1, fun x => ⟨fun e => e.imp (f1 x).1 (g1 x).1, fun e => e.imp (f1 x).2 (g1 x).2⟩, ⟨f2, by
    rw [Wds_length]; exact Or.inr ⟨b, rfl, g2, by simp [u64s, Wds_length], g3⟩, f3, fun e => hd m ((g1 m).2 e) ((f1 m).2 rfl), h1.1, h1.2.1, h1.2.2⟩⟩
theorem cel_wr {b n i : Nat} {L : List Nat} (hs : Hs H (Cel b (u64s L) :: R)) (hi : i < L.length) : ∃ H', wr H b i [.int .u64 n] = some H' ∧ Hs H' (Cel b (u64s (L.set i n)) :: R) := by
  refine ⟨H.put b (.cells (u64s (L.set i n)) true), ?_, hs.put⟩
  rw [wr_s hs.cel]
  have e : over (u64s L) i [.int .u64 (n : Nat)] = u64s (L.set i n) := by
    rw [over_one (by simp [u64s]; omega)]; simp [u64s, List.map_set]
  rw [e, if_pos (by simp [u64s]; omega)]; rfl

/-- The words up to n are inverted. -/
def invP (p : Nat → Nat → Bool) (wd n : Nat) : Nat → Nat → Bool := fun i j => if j * wd + i / 64 < n then !p i j else p i j
def InvI (m w h : Nat) (p : Nat → Nat → Bool) (R : List As) (k : Nat) (fr : Fr) (H : Heap) : Prop :=
  ∃ n : Nat, k = h * wds w - n ∧ n ≤ h * wds w ∧ fr = ⟨[(0, .ptr (some (m, 0))), (7, .int .i64 (h * wds w : Nat)), (8, .int .i64 n)], []⟩ ∧ Hs H (MapA m w h (invP p (wds w) n) :: R)

theorem inv_ct (hp : HasBm P) (hs : Hs H (MapA m w h p :: R)) (hQ : ∀ H', Hs H' (MapA m w h (fun i j => !p i j) :: R) → Q (.ret (.tup [])) H') : Call P 66 [.ptr (some (m, 0))] H Q := by
  obtain ⟨b0, k0⟩ := mapV hs
  obtain ⟨z1, z2, z3, z4, z5⟩ := mapSz hs
  have hww := k0.words
  have hwd : 0 < wds w := by unfold wds; omega
  refine call_of hp.h_bitmap_Map_Invert rfl ?_
  simp -implicitDefEqProofs -dsimp (disch := omega) only [go_sem, dec_t, dec_f, rd_s k0.cell]
  have hst : invP p (wds w) 0 = p := by funext i j; unfold invP; rw [if_neg (by omega)]
  refine loop_inv (InvI m w h p R) ?_ (h * wds w) _ _ ⟨0, rfl, by omega, rfl, by rw [hst]; exact hs⟩
  rintro k fr H1 ⟨n, hk, hn, rfl, h1⟩
  generalize hK : rnd (InvI m w h p R) k = K
  by_cases hnn : n < h * wds w
  · obtain ⟨b, hne, h2⟩ := map_open h1
    have hy : n / wds w < h := Nat.div_lt_of_lt_mul (by rw [Nat.mul_comm]; exact hnn)
    have hi : n % wds w < wds w := Nat.mod_lt _ hwd
    have hj : n / wds w * wds w + n % wds w = n := by rw [Nat.mul_comm]; exact Nat.div_add_mod n (wds w)
    have hat := Wds_at (p := invP p (wds w) n) hy hi
    rw [hj] at hat
    generalize hy' : n / wds w = y at *
    generalize hi' : n % wds w = i at *
    have hW := word_lt w (invP p (wds w) n) y i
    generalize hWw : word w (invP p (wds w) n) y i = W at *
    have hWb : ∀ k, k < 64 → wb W k = (decide (64 * i + k < w) && p (64 * i + k) y) := fun k hk => by
      rw [← hWw, wb_word hk]; unfold invP
      rw [if_neg (by rw [show (64 * i + k) / 64 = i by omega]; omega)]
    have hc := h2.cel
    have hr : rd H1 none b n = some (.int .u64 (W : Nat)) := by rw [rd_s h2.p1.cel]; simp only [u64s, List.getElem?_map, hat, Option.map_some]
    obtain ⟨H2, hw2, h3⟩ := cel_wr (n := inv W) h2.p1 (i := n) (by rw [Wds_length]; exact hnn)
    have hc3 := h3.p1.cel
    have hlen : n < ((Wds w h (invP p (wds w) n)).set n (inv W)).length := by rw [List.length_set, Wds_length]; exact hnn
    have hr3 : rd H2 none b n = some (.int .u64 (inv W : Nat)) := by rw [rd_s h3.cel]; simp [u64s, Wds_length, hnn]
    unfold mapC at hc hc3
    have e2 : (n : Int) % ((wds w : Nat) : Int) = (i : Int) := by rw [← hi']; rfl
    -- the words as they should be
    have fin : ∀ N : Nat, N < 18446744073709551616 → (∀ k, k < 64 → wb N k = (decide (64 * i + k < w) && !wb W k)) → (Wds w h (invP p (wds w) n)).set n N = Wds w h (invP p (wds w) (n + 1)) := fun N hN hNb => by
      refine (congrArg (fun z => (Wds w h (invP p (wds w) n)).set z N) hj).symm.trans (Wds_set hy hi hN (fun k hk => ?_) fun x' y' hx hy2 hne2 => ?_)
      · rw [hNb k hk, hWb k hk]
        unfold invP
        rw [if_pos (by rw [show (64 * i + k) / 64 = i by omega]; omega)]
        by_cases c : 64 * i + k < w
        · rw [decide_eq_true c]; simp
        · rw [decide_eq_false c]; simp
      · unfold invP
        have hx6 := wds_of hx
        have hdiff : y' * wds w + x' / 64 ≠ n := fun e => by
          have q1 : y' = y := by rw [← hy', ← e, Nat.mul_comm, Nat.mul_add_div hwd, Nat.div_eq_of_lt hx6, Nat.add_zero]
          have q2 : x' / 64 = i := by rw [← hi', ← e, Nat.mul_comm, Nat.mul_add_mod, Nat.mod_eq_of_lt hx6]
          rcases hne2 with h | h; exact h q1; exact h q2
        by_cases c : y' * wds w + x' / 64 < n
        · rw [if_pos c, if_pos (by omega)]
        · rw [if_neg c, if_neg (by omega)]
    have hz : ¬ ((wds w : Nat) : Int) = 0 := by omega
    have hwl : wds w ≤ 1048576 := by unfold wds; omega
    by_cases hl : i = wds w - 1
    · have e3 : ((wds w : Nat) : Int) - 1 = (i : Int) := by omega
      simp -implicitDefEqProofs -dsimp (disch := omega) only [go_sem, dec_t, dec_f, bitmap_Map_Invert_l0, w64, rd_s hc, Int.toNat_natCast, Nat.mul_one, hr, not64 hW, hw2, rd_s hc3, tmodN, e2, e3, hr3, if_neg hz]
      refine last_ct hp z4 ?_
      have hand := and64 (inv_lt hW) (modw_lt (18446744073709551615 * 2 ^ padS w))
      simp -implicitDefEqProofs -dsimp (disch := omega) only [go_sem, dec_t, dec_f, ]
      refine aft_intro (t := tag _) (by simp [rechecks, recheck, fresh, Fr.get, Fr.put, look, step, opd, rd_s hc3, hr3]) ?_
      obtain ⟨H3, hw3, h4⟩ := cel_wr (n := inv W &&& (18446744073709551615 * 2 ^ padS w % 18446744073709551616)) h3 hlen
      simp -implicitDefEqProofs -dsimp (disch := omega) only [go_sem, dec_t, dec_f, hand, Int.toNat_natCast, Nat.mul_one, hw3, w64, cadd1]
      subst hK
      refine rnd_n (h * wds w - (n + 1)) (by omega) ⟨n + 1, rfl, by omega, rfl, map_close (b := b) ?_ ⟨z1, z2, z3⟩⟩
      rw [List.set_set, fin _ (and_lt (inv_lt hW)) fun k hk => ?_] at h4
      · exact h4.p1
      · have e : decide (k + padS w < 64) = decide (64 * i + k < w) := decide_eq_decide.2 (by rw [hl]; exact pad_iff z1 hk)
        rw [wb_and, wb_inv hk, wb_last hk, e, Bool.and_comm]
    · have e3 : ¬ ((i : Int) = ((wds w : Nat) : Int) - 1) := by omega
      simp -implicitDefEqProofs -dsimp (disch := omega) only [go_sem, dec_t, dec_f, bitmap_Map_Invert_l0, w64, rd_s hc, Int.toNat_natCast, Nat.mul_one, hr, not64 hW, hw2, rd_s hc3, tmodN, e2, cadd1, if_neg hz]
      subst hK
      refine rnd_n (h * wds w - (n + 1)) (by omega) ⟨n + 1, rfl, by omega, rfl, map_close (b := b) ?_ ⟨z1, z2, z3⟩⟩
      rw [fin _ (inv_lt hW) fun k hk => ?_] at h3
      · exact h3.p1
      · rw [wb_inv hk, decide_eq_true (by unfold wds at hi hl; omega)]; rfl
  · obtain rfl : n = h * wds w := by omega
    simp -implicitDefEqProofs -dsimp (disch := omega) only [go_sem, dec_t, dec_f, bitmap_Map_Invert_l0]
    subst hK
    simp -implicitDefEqProofs -dsimp (disch := omega) only [go_sem, dec_t, dec_f, ]
    refine hQ H1 (h1.mapc fun i j hi hj => ?_)
    unfold invP
    rw [if_pos (word_at hj (wds_of hi))]
end
end Go.Ab
/- Mirror, Turn: pixels that stand elsewhere. Conditions: none. -/
namespace Go.Ab

theorem fc2 (fr : Fr) (t u v : Nat) (i j g : Nat) (k1 k2 : IntKind) (c : List V) (a b : Int) (e1 : fr.get t = some (.fn g [] c)) (e2 : fr.get u = some (.int k1 a)) (e3 : fr.get v = some (.int k2 b)) : callee fr (.t t) [.t u, .t v] = some (g, [.int k1 a, .int k2 b] ++ c) := by
  simp [callee, opd, opds, e1, e2, e3]

section
variable {P : Prog} {H : Heap} {R : List As} {Q : Out → Heap → Prop} {m w h : Nat} {p : Nat → Nat → Bool}

/-- The rows up to y, of row y the pixels up to x. -/
def turP (q : Nat → Nat → Bool) (w y x : Nat) : Nat → Nat → Bool := fun i j => decide (j < y ∨ (j = y ∧ i < x)) && q i j
def TuF (m w' h' c y : Nat) (f : V) (mid : List (Nat × V)) : Fr := ⟨[(0, .ptr (some (m, 0))), (1, .int .i64 w'), (3, f), (9, .ptr (some (c, 0)))] ++ mid, []⟩
def TuI (m w h : Nat) (p : Nat → Nat → Bool) (w' h' c : Nat) (f : V) (q : Nat → Nat → Bool) (R : List As) (k : Nat) (fr : Fr) (H : Heap) : Prop :=
  ∃ y : Nat, k = h' - y ∧ y ≤ h' ∧ fr = TuF m w' h' c y f [(25, .int .i64 h'), (26, .int .i64 y)] ∧ Hs H (MapA c w' h' (turP q w' y 0) :: MapA m w h p :: R)
def TuJ (m w h : Nat) (p : Nat → Nat → Bool) (w' h' c : Nat) (f : V) (q : Nat → Nat → Bool) (R : List As) (y : Nat) (k : Nat) (fr : Fr) (H : Heap) : Prop :=
  ∃ x : Nat, k = w' - x ∧ x ≤ w' ∧ fr = TuF m w' h' c y f [(10, .int .i64 y), (25, .int .i64 h'), (26, .int .i64 y), (29, .int .i64 w'), (30, .int .i64 x)] ∧ Hs H (MapA c w' h' (turP q w' y x) :: MapA m w h p :: R)

theorem turned_ct (hp : HasBm P) (hs : Hs H (MapA m w h p :: R)) {w' h' g : Nat} {cs : List V} {fx fy : Nat → Nat → Nat} (hw : 1 ≤ w' ∧ 1 ≤ h' ∧ w' * h' ≤ 1048576)
    (hf : ∀ i j H' Q', i < w' → j < h' → Hs H' (MapA m w h p :: R) → Q' (.ret (.tup [.int .i64 (fx i j), .int .i64 (fy i j)])) H' → Call P g ([.int .i64 i, .int .i64 j] ++ cs) H' Q')
    (hr : ∀ i j, i < w' → j < h' → fx i j < w ∧ fy i j < h)
    (hQ : ∀ c H', Hs H' (MapA c w' h' (fun i j => p (fx i j) (fy i j)) :: MapA m w h p :: R) → Q (.ret (.ptr (some (c, 0)))) H') :
    Call P 67 [.ptr (some (m, 0)), .int .i64 w', .int .i64 h', .fn g [] cs] H Q := by
  obtain ⟨z1, z2, z3⟩ := hw
  have kw := wds_le z3 z1
  have z4 : w' ≤ 1048576 := by have := Nat.le_mul_of_pos_right w' (show 0 < h' by omega); omega
  have z5 : h' ≤ 1048576 := by have := Nat.le_mul_of_pos_left h' (show 0 < w' by omega); omega
  have ew : ((w' : Int) + 63) / 64 = ((wds w' : Nat) : Int) := by unfold wds; omega
  have em : (h' : Int) * ((wds w' : Nat) : Int) = ((h' * wds w' : Nat) : Int) := (Int.natCast_mul _ _).symm
  have hwl : wds w' ≤ 1048576 := by unfold wds; omega
  refine call_of hp.h_bitmap_Map_turned rfl ?_
  simp -implicitDefEqProofs -dsimp (disch := omega) only [go_sem, dec_t, dec_f, w64, tdivN, ew, em, Int.toNat_natCast, reps_u64]
  have g1 : Hs (H.new (.cells (u64s (List.replicate (h' * wds w') 0)) true)) (Cel H.next (u64s (List.replicate (h' * wds w') 0)) :: MapA m w h p :: R) := hs.alloc
  have g2 := g1.alloc (l := mapC w' h' H.next)
  rw [← Wds_white w' h'] at g2
  have g3 := map_close (g2.p1.p1) ⟨z1, z2, z3⟩
  rw [next_new] at *
  unfold mapC at g3
  rw [Wds_white] at g3
  generalize (H.new (.cells (u64s (List.replicate (h' * wds w') 0)) true)).new (.cells [.int .i64 w', .int .i64 h', .int .i64 (wds w'), .sl (some (H.next, 0)) (h' * wds w') (h' * wds w') 1] true) = H1 at *
  generalize H.next + 1 = c at *
  generalize hq : (fun i j => p (fx i j) (fy i j)) = q at *
  have hqv : ∀ i j, q i j = p (fx i j) (fy i j) := fun i j => by rw [← hq]
  refine loop_inv (TuI m w h p w' h' c (.fn g [] cs) q R) ?_ h' _ _ ⟨0, by omega, by omega, rfl, g3.mapc fun i j _ _ => by unfold turP; rw [decide_eq_false (by omega)]; rfl⟩
  rintro k fr H2 ⟨y, hk, hy, rfl, h2⟩
  generalize hK : rnd (TuI m w h p w' h' c (.fn g [] cs) q R) k = K
  by_cases hyy : y < h'
  · simp -implicitDefEqProofs -dsimp (disch := omega) only [go_sem, dec_t, dec_f, TuF, bitmap_Map_turned_l0]
    refine loop_inv (TuJ m w h p w' h' c (.fn g [] cs) q R y) ?_ w' _ _ ⟨0, by omega, by omega, rfl, h2⟩
    rintro k2 fr2 H3 ⟨x, hk2, hx, rfl, h3⟩
    generalize hK2 : rnd (TuJ m w h p w' h' c (.fn g [] cs) q R y) k2 = K2
    by_cases hxx : x < w'
    · simp -implicitDefEqProofs -dsimp (disch := omega) only [go_sem, dec_t, dec_f, TuF, bitmap_Map_turned_l1]
      refine hf x y H3 _ hxx hyy h3.tail ?_
      obtain ⟨r1, r2⟩ := hr x y hxx hyy
      simp -implicitDefEqProofs -dsimp (disch := omega) only [go_sem, dec_t, dec_f, ]
      refine get_ct hp h3.p1 ?_
      have hv : getV w h p (fx x y : Nat) (fy x y : Nat) = (q x y).toNat := by unfold getV; rw [if_pos (by omega), Int.toNat_natCast, Int.toNat_natCast, hqv]
      rw [hv]
      cases hb : q x y with
      | true =>
        simp -implicitDefEqProofs -dsimp (disch := omega) only [go_sem, dec_t, dec_f, Bool.toNat_true]
        refine put_ct hp (bit := true) h3 hxx hyy fun H4 h4 => ?_
        simp -implicitDefEqProofs -dsimp (disch := omega) only [go_sem, dec_t, dec_f, w64, cadd1]
        subst hK2
        refine rnd_n (w' - (x + 1)) (by omega) ⟨x + 1, rfl, by omega, rfl, h4.mapc fun i j hi hj => ?_⟩
        unfold updP turP
        by_cases e : i = x ∧ j = y
        · obtain ⟨rfl, rfl⟩ := e
          rw [if_pos ⟨rfl, rfl⟩, hb, decide_eq_true (by omega)]; rfl
        · rw [if_neg e]; congr 1; exact decide_eq_decide.2 (by omega)
      | false =>
        simp -implicitDefEqProofs -dsimp (disch := omega) only [go_sem, dec_t, dec_f, Bool.toNat_false, w64, cadd1]
        subst hK2
        refine rnd_n (w' - (x + 1)) (by omega) ⟨x + 1, rfl, by omega, rfl, h3.mapc fun i j hi hj => ?_⟩
        unfold turP
        by_cases e : i = x ∧ j = y
        · obtain ⟨rfl, rfl⟩ := e
          rw [hb, Bool.and_false, Bool.and_false]
        · congr 1; exact decide_eq_decide.2 (by omega)
    · obtain rfl : x = w' := by omega
      simp -implicitDefEqProofs -dsimp (disch := omega) only [go_sem, dec_t, dec_f, TuF, bitmap_Map_turned_l1]
      subst hK2
      simp -implicitDefEqProofs -dsimp (disch := omega) only [go_sem, dec_t, dec_f, w64, cadd1]
      subst hK
      refine rnd_n (h' - (y + 1)) (by omega) ⟨y + 1, rfl, by omega, rfl, h3.mapc fun i j hi hj => ?_⟩
      unfold turP
      congr 1
      exact decide_eq_decide.2 (by omega)
  · obtain rfl : y = h' := by omega
    simp -implicitDefEqProofs -dsimp (disch := omega) only [go_sem, dec_t, dec_f, TuF, bitmap_Map_turned_l0]
    subst hK
    simp -implicitDefEqProofs -dsimp (disch := omega) only [go_sem, dec_t, dec_f, ]
    refine hQ c H2 (h2.mapc fun i j hi hj => ?_)
    unfold turP
    rw [decide_eq_true (Or.inl hj)]; rfl

theorem mirror_ct (hp : HasBm P) (hs : Hs H (MapA m w h p :: R)) (hQ : ∀ c H', Hs H' (MapA c w h (fun i j => p (w - 1 - i) j) :: MapA m w h p :: R) → Q (.ret (.ptr (some (c, 0)))) H') : Call P 69 [.ptr (some (m, 0))] H Q := by
  obtain ⟨z1, z2, z3, z4, z5⟩ := mapSz hs
  refine call_of hp.h_bitmap_Map_Mirror rfl ?_
  have hlt : m < H.next := by obtain ⟨F, v, hF, k⟩ := hs.head; exact k.lt
  have hne : ¬ m = H.next := by omega
  obtain ⟨b, k⟩ := mapV hs
  simp -implicitDefEqProofs -dsimp (disch := omega) only [go_sem, dec_t, dec_f, if_neg hne, rd_s k.cell]
  have g1 := hs.alloc (l := [.ptr (some (m, 0))])
  generalize H.new (.cells [.ptr (some (m, 0))] true) = H1 at *
  generalize H.next = bx at *
  refine turned_ct hp g1.p1 (fx := fun i _ => w - 1 - i) (fy := fun _ j => j) ⟨z1, z2, z3⟩ (fun i j H' Q' hi hj h' hq => ?_) (fun i j hi hj => by omega) fun c H2 h2 => ?_
  · obtain ⟨b', k'⟩ := mapV h'
    refine call_of hp.h_bitmap_Map_Mirror_1 rfl ?_
    have e : (w : Int) - 1 - (i : Int) = ((w - 1 - i : Nat) : Int) := by omega
    simp -implicitDefEqProofs -dsimp (disch := omega) only [go_sem, dec_t, dec_f, rd_s h'.p1.cel, rd_s k'.cell, w64, e]
    exact hq
  · simp -implicitDefEqProofs -dsimp (disch := omega) only [go_sem, dec_t, dec_f, ]
    exact hQ c H2 h2.p2.tail
theorem turn_ct (hp : HasBm P) (hs : Hs H (MapA m w h p :: R)) (hQ : ∀ c H', Hs H' (MapA c h w (fun i j => p j (h - 1 - i)) :: MapA m w h p :: R) → Q (.ret (.ptr (some (c, 0)))) H') : Call P 71 [.ptr (some (m, 0))] H Q := by
  obtain ⟨z1, z2, z3, z4, z5⟩ := mapSz hs
  refine call_of hp.h_bitmap_Map_Turn rfl ?_
  have hlt : m < H.next := by obtain ⟨F, v, hF, k⟩ := hs.head; exact k.lt
  have hne : ¬ m = H.next := by omega
  obtain ⟨b, k⟩ := mapV hs
  simp -implicitDefEqProofs -dsimp (disch := omega) only [go_sem, dec_t, dec_f, if_neg hne, rd_s k.cell]
  have g1 := hs.alloc (l := [.ptr (some (m, 0))])
  generalize H.new (.cells [.ptr (some (m, 0))] true) = H1 at *
  generalize H.next = bx at *
  refine turned_ct hp g1.p1 (fx := fun _ j => j) (fy := fun i _ => h - 1 - i) ⟨z2, z1, by rw [Nat.mul_comm]; exact z3⟩ (fun i j H' Q' hi hj h' hq => ?_) (fun i j hi hj => by omega) fun c H2 h2 => ?_
  · obtain ⟨b', k'⟩ := mapV h'
    refine call_of hp.h_bitmap_Map_Turn_1 rfl ?_
    have e : (h : Int) - 1 - (i : Int) = ((h - 1 - i : Nat) : Int) := by omega
    simp -implicitDefEqProofs -dsimp (disch := omega) only [go_sem, dec_t, dec_f, rd_s h'.p1.cel, rd_s k'.cell, w64, e]
    exact hq
  · simp -implicitDefEqProofs -dsimp (disch := omega) only [go_sem, dec_t, dec_f, ]
    exact hQ c H2 h2.p2.tail
end
end Go.Ab
