/- Words of a row from any place on; the operations; copies. Conditions: none. -/
import Derived.Test.YtdkgdneiilnppaaCi
set_option linter.all false
namespace Go.Ab

/-- The operations, on words, on pixels. -/
def opW (op a b : Nat) : Nat := if op = 0 then a ||| b else if op = 1 then a &&& b else if op = 2 then a ^^^ b else if op = 3 then inv (a ^^^ b) else b
def opB (op : Nat) (a b : Bool) : Bool := if op = 0 then a || b else if op = 1 then a && b else if op = 2 then a ^^ b else if op = 3 then !(a ^^ b) else b
theorem opW_lt {op a b : Nat} (ha : a < 18446744073709551616) (hb : b < 18446744073709551616) : opW op a b < 18446744073709551616 := by
  unfold opW
  split; · exact or_lt ha hb
  split; · exact and_lt ha
  split; · exact xor_lt ha hb
  split; · exact inv_lt (xor_lt ha hb)
  exact hb
theorem wb_opW {op a b k : Nat} (hk : k < 64) : wb (opW op a b) k = opB op (wb a k) (wb b k) := by
  unfold opW opB
  split; · exact wb_or _ _ _
  split; · exact wb_and _ _ _
  split; · exact wb_xor _ _ _
  split; · rw [wb_inv hk, wb_xor]
  rfl

/-- The pixel of a row of words. -/
def rowB (L : List Nat) (z : Int) : Bool := decide (0 ≤ z) && wb (L.getD (z.toNat / 64) 0) (z.toNat % 64)
def wordN (L : List Nat) (x : Nat) : Nat := if L.length ≤ x / 64 then 0 else if 0 < x % 64 ∧ x / 64 + 1 < L.length then L.getD (x / 64) 0 * 2 ^ (x % 64) % 18446744073709551616 ||| L.getD (x / 64 + 1) 0 / 2 ^ (64 - x % 64) else L.getD (x / 64) 0 * 2 ^ (x % 64) % 18446744073709551616
theorem getD_lt {L : List Nat} (hL : ∀ n ∈ L, n < 18446744073709551616) (i : Nat) : L.getD i 0 < 18446744073709551616 := by
  rw [List.getD_eq_getElem?_getD]
  cases h : L[i]? with
  | none => simp
  | some x => exact hL x (List.mem_of_getElem? h)
theorem getD_out {L : List Nat} {i : Nat} (h : L.length ≤ i) : L.getD i 0 = 0 := by rw [List.getD_eq_getElem?_getD, List.getElem?_eq_none h]; rfl
theorem wordN_lt {L : List Nat} (hL : ∀ n ∈ L, n < 18446744073709551616) (x : Nat) : wordN L x < 18446744073709551616 := by
  unfold wordN
  split; · omega
  split
  · exact or_lt (modw_lt _) (shr_lt (getD_lt hL _))
  · exact modw_lt _
theorem wb_wordN {L : List Nat} (hL : ∀ n ∈ L, n < 18446744073709551616) {x k : Nat} (hk : k < 64) : wb (wordN L x) k = rowB L ((x + k : Nat) : Int) := by
  unfold wordN rowB
  rw [decide_eq_true (by omega), Bool.true_and, Int.toNat_natCast]
  split
  · rw [getD_out (by omega), wb_zero, wb_zero]
  · split
    · rw [wb_or, wb_shl hk, wb_shr (getD_lt hL _) hk]
      by_cases c : k + x % 64 < 64
      · rw [decide_eq_true c, decide_eq_false (by omega), show (x + k) / 64 = x / 64 by omega, show (x + k) % 64 = k + x % 64 by omega]; simp
      · rw [decide_eq_false c, decide_eq_true (by omega), show (x + k) / 64 = x / 64 + 1 by omega, show (x + k) % 64 = k - (64 - x % 64) by omega]; simp
    · rename_i h1 h2
      rw [wb_shl hk]
      by_cases c : k + x % 64 < 64
      · rw [decide_eq_true c, show (x + k) / 64 = x / 64 by omega, show (x + k) % 64 = k + x % 64 by omega]; simp
      · rw [decide_eq_false c, show (x + k) / 64 = x / 64 + 1 by omega, getD_out (i := x / 64 + 1) (by omega), wb_zero]; rfl

section
variable {P : Prog} {H : Heap} {R : List As} {Q : Out → Heap → Prop}

theorem does_ct (hp : HasBm P) {op a b : Nat} (ho : op < 5) (ha : a < 18446744073709551616) (hb : b < 18446744073709551616) (hQ : Q (.ret (.int .u64 (opW op a b : Nat))) H) : Call P (57 + op) [.int .u64 a, .int .u64 b] H Q := by
  rcases (show op = 0 ∨ op = 1 ∨ op = 2 ∨ op = 3 ∨ op = 4 by omega) with rfl | rfl | rfl | rfl | rfl
  · refine call_of hp.h_bitmap_operations_1 rfl ?_
    simp -implicitDefEqProofs -dsimp (disch := omega) only [go_sem, Nat.reduceEqDiff, ↓reduceIte, Nat.reduceAdd, Nat.reduceMul, Nat.reduceSub, Nat.reduceLT, Nat.reduceLeDiff, Int.reduceLT, Int.reduceLE, Int.reduceEq, Int.reduceNeg, Int.reduceAdd, Int.reduceMul, Int.reduceSub, Int.reduceToNat, reduceCtorEq, dec_t, dec_f, or64 ha hb]; exact hQ
  · refine call_of hp.h_bitmap_operations_2 rfl ?_
    simp -implicitDefEqProofs -dsimp (disch := omega) only [go_sem, Nat.reduceEqDiff, ↓reduceIte, Nat.reduceAdd, Nat.reduceMul, Nat.reduceSub, Nat.reduceLT, Nat.reduceLeDiff, Int.reduceLT, Int.reduceLE, Int.reduceEq, Int.reduceNeg, Int.reduceAdd, Int.reduceMul, Int.reduceSub, Int.reduceToNat, reduceCtorEq, dec_t, dec_f, and64 ha hb]; exact hQ
  · refine call_of hp.h_bitmap_operations_3 rfl ?_
    simp -implicitDefEqProofs -dsimp (disch := omega) only [go_sem, Nat.reduceEqDiff, ↓reduceIte, Nat.reduceAdd, Nat.reduceMul, Nat.reduceSub, Nat.reduceLT, Nat.reduceLeDiff, Int.reduceLT, Int.reduceLE, Int.reduceEq, Int.reduceNeg, Int.reduceAdd, Int.reduceMul, Int.reduceSub, Int.reduceToNat, reduceCtorEq, dec_t, dec_f, xor64 ha hb]; exact hQ
  · refine call_of hp.h_bitmap_operations_4 rfl ?_
    simp -implicitDefEqProofs -dsimp (disch := omega) only [go_sem, Nat.reduceEqDiff, ↓reduceIte, Nat.reduceAdd, Nat.reduceMul, Nat.reduceSub, Nat.reduceLT, Nat.reduceLeDiff, Int.reduceLT, Int.reduceLE, Int.reduceEq, Int.reduceNeg, Int.reduceAdd, Int.reduceMul, Int.reduceSub, Int.reduceToNat, reduceCtorEq, dec_t, dec_f, xor64 ha hb, not64 (xor_lt ha hb)]; exact hQ
  · refine call_of hp.h_bitmap_operations_5 rfl ?_
    simp -implicitDefEqProofs -dsimp (disch := omega) only [go_sem, Nat.reduceEqDiff, ↓reduceIte, Nat.reduceAdd, Nat.reduceMul, Nat.reduceSub, Nat.reduceLT, Nat.reduceLeDiff, Int.reduceLT, Int.reduceLE, Int.reduceEq, Int.reduceNeg, Int.reduceAdd, Int.reduceMul, Int.reduceSub, Int.reduceToNat, reduceCtorEq, dec_t, dec_f, ]; exact hQ
theorem operations_ct (hp : HasBm P) (hs : Hs H R) (hQ : ∀ b H', Hs H' (Cel b [.fn 57 [] [], .fn 58 [] [], .fn 59 [] [], .fn 60 [] [], .fn 61 [] []] :: R) → Q (.ret (.sl (some (b, 0)) 5 5 1)) H') : Call P 62 [] H Q := by
  refine call_of hp.h_bitmap_operations rfl ?_
  simp -implicitDefEqProofs -dsimp (disch := omega) only [go_sem, Nat.reduceEqDiff, ↓reduceIte, Nat.reduceAdd, Nat.reduceMul, Nat.reduceSub, Nat.reduceLT, Nat.reduceLeDiff, Int.reduceLT, Int.reduceLE, Int.reduceEq, Int.reduceNeg, Int.reduceAdd, Int.reduceMul, Int.reduceSub, Int.reduceToNat, reduceCtorEq, dec_t, dec_f, ]
  exact hQ _ _ hs.alloc

theorem word_pos (hp : HasBm P) {rv : V} {L : List Nat} (hr : Arr H rv 1 L.length (u64s L)) (hL : ∀ n ∈ L, n < 18446744073709551616) (hl : L.length ≤ 1048576) {x : Nat} (hx : x ≤ 1099511627776) (hQ : Q (.ret (.int .u64 (wordN L x : Nat))) H) :
    Call P 63 [rv, .int .i64 x] H Q := by
  obtain ⟨a, c, e', rfl⟩ := hr.shape
  refine call_of hp.h_bitmap_word rfl ?_
  have e1 : (x : Int) / 64 = ((x / 64 : Nat) : Int) := rfl
  have e2 : (x : Int) % 64 = ((x % 64 : Nat) : Int) := rfl
  unfold wordN at hQ
  by_cases c1 : L.length ≤ x / 64
  · rw [if_pos c1] at hQ
    simp -implicitDefEqProofs -dsimp (disch := omega) only [go_sem, Nat.reduceEqDiff, ↓reduceIte, Nat.reduceAdd, Nat.reduceMul, Nat.reduceSub, Nat.reduceLT, Nat.reduceLeDiff, Int.reduceLT, Int.reduceLE, Int.reduceEq, Int.reduceNeg, Int.reduceAdd, Int.reduceMul, Int.reduceSub, Int.reduceToNat, reduceCtorEq, dec_t, dec_f, tdivN, e1, w64]
    exact hQ
  · rw [if_neg c1] at hQ
    obtain ⟨b3, o3, c3, hv3, hr3⟩ := arr_u64 hr (show x / 64 < L.length by omega)
    cases hv3
    have g0 : L.getD (x / 64) 0 = L[x / 64] := by rw [List.getD_eq_getElem?_getD, List.getElem?_eq_getElem (by omega)]; rfl
    rw [← g0] at hr3
    have l0 := getD_lt hL (x / 64)
    by_cases c2 : 0 < x % 64 ∧ x / 64 + 1 < L.length
    · rw [if_pos c2] at hQ
      obtain ⟨b4, o4, c4, hv4, hr4⟩ := arr_u64 hr c2.2
      cases hv4
      have g1 : L.getD (x / 64 + 1) 0 = L[x / 64 + 1] := by rw [List.getD_eq_getElem?_getD, List.getElem?_eq_getElem c2.2]; rfl
      rw [← g1] at hr4
      have l1 := getD_lt hL (x / 64 + 1)
      have e3 : 64 - ((x % 64 : Nat) : Int) = ((64 - x % 64 : Nat) : Int) := by omega
      have eo : bitop .or .u64 ((L.getD (x / 64) 0 * 2 ^ (x % 64) % 18446744073709551616 : Nat) : Int) ((L.getD (x / 64 + 1) 0 / 2 ^ (64 - x % 64) : Nat) : Int) = ((L.getD (x / 64) 0 * 2 ^ (x % 64) % 18446744073709551616 ||| L.getD (x / 64 + 1) 0 / 2 ^ (64 - x % 64) : Nat) : Int) := or64 (modw_lt _) (shr_lt l1)
      simp -implicitDefEqProofs -dsimp (disch := omega) only [go_sem, Nat.reduceEqDiff, ↓reduceIte, Nat.reduceAdd, Nat.reduceMul, Nat.reduceSub, Nat.reduceLT, Nat.reduceLeDiff, Int.reduceLT, Int.reduceLE, Int.reduceEq, Int.reduceNeg, Int.reduceAdd, Int.reduceMul, Int.reduceSub, Int.reduceToNat, reduceCtorEq, dec_t, dec_f, tdivN, tmodN, e1, e2, w64, Int.toNat_natCast, Nat.mul_one, hr3, hr4, shlw, cadd1, e3, shr64 l1, eo]
      exact hQ
    · rw [if_neg c2] at hQ
      rcases (show x % 64 = 0 ∨ (0 < x % 64 ∧ L.length ≤ x / 64 + 1) by omega) with d | d <;>
      · simp -implicitDefEqProofs -dsimp (disch := omega) only [go_sem, Nat.reduceEqDiff, ↓reduceIte, Nat.reduceAdd, Nat.reduceMul, Nat.reduceSub, Nat.reduceLT, Nat.reduceLeDiff, Int.reduceLT, Int.reduceLE, Int.reduceEq, Int.reduceNeg, Int.reduceAdd, Int.reduceMul, Int.reduceSub, Int.reduceToNat, reduceCtorEq, dec_t, dec_f, tdivN, tmodN, e1, e2, w64, Int.toNat_natCast, Nat.mul_one, hr3, shlw, cadd1]
        exact hQ
theorem word_ct (hp : HasBm P) {rv : V} {L : List Nat} (hr : Arr H rv 1 L.length (u64s L)) (hL : ∀ n ∈ L, n < 18446744073709551616) (hl : L.length ≤ 1048576) {x : Int} (hx : -64 < x ∧ x ≤ 1099511627776)
    (hQ : ∀ n : Nat, n < 18446744073709551616 → (∀ k, k < 64 → wb n k = rowB L (x + k)) → Q (.ret (.int .u64 n)) H) : Call P 63 [rv, .int .i64 x] H Q := by
  by_cases c : 0 ≤ x
  · obtain ⟨xn, rfl⟩ : ∃ xn : Nat, x = xn := ⟨x.toNat, by omega⟩
    exact word_pos hp hr hL hl (by omega) (hQ _ (wordN_lt hL _) fun k hk => by rw [wb_wordN hL hk]; rfl)
  · obtain ⟨d, rfl⟩ : ∃ d : Nat, x = -(d : Int) := ⟨(-x).toNat, by omega⟩
    refine call_of hp.h_bitmap_word rfl ?_
    simp -implicitDefEqProofs -dsimp (disch := omega) only [go_sem, Nat.reduceEqDiff, ↓reduceIte, Nat.reduceAdd, Nat.reduceMul, Nat.reduceSub, Nat.reduceLT, Nat.reduceLeDiff, Int.reduceLT, Int.reduceLE, Int.reduceEq, Int.reduceNeg, Int.reduceAdd, Int.reduceMul, Int.reduceSub, Int.reduceToNat, reduceCtorEq, dec_t, dec_f, ]
    refine word_pos hp hr hL hl (x := 0) (by omega) ?_
    have e1 : (0 : Int) - -(d : Int) = (d : Int) := by omega
    simp -implicitDefEqProofs -dsimp (disch := omega) only [go_sem, Nat.reduceEqDiff, ↓reduceIte, Nat.reduceAdd, Nat.reduceMul, Nat.reduceSub, Nat.reduceLT, Nat.reduceLeDiff, Int.reduceLT, Int.reduceLE, Int.reduceEq, Int.reduceNeg, Int.reduceAdd, Int.reduceMul, Int.reduceSub, Int.reduceToNat, reduceCtorEq, dec_t, dec_f, e1, w64, shr64 (wordN_lt hL 0)]
    refine hQ _ (shr_lt (wordN_lt hL 0)) fun k hk => ?_
    rw [wb_shr (wordN_lt hL 0) hk]
    by_cases ck : d ≤ k
    · rw [decide_eq_true ck, Bool.true_and, wb_wordN hL (by omega)]; congr 1; omega
    · rw [decide_eq_false ck]; unfold rowB; rw [decide_eq_false (by omega)]; rfl

def bothS (a as b bs n : Int) : Int × Int × Int :=
  if (cutS a n as).2 = 0 ∨ 9223372036854775807 - (cutS a n as).1 < b then (0, 0, 0) else
    (a + (cutS a n as).1 + (cutS (b + (cutS a n as).1) (cutS a n as).2 bs).1, b + (cutS a n as).1 + (cutS (b + (cutS a n as).1) (cutS a n as).2 bs).1, (cutS (b + (cutS a n as).1) (cutS a n as).2 bs).2)
/-- What is left is what lies in both. -/
theorem bothS_spec {a as b bs n : Int} (ha : 1 ≤ as) (hb : 1 ≤ bs) (hb2 : bs ≤ 1048576) (ha' : i64r a) (hb' : i64r b) :
    0 ≤ (bothS a as b bs n).2.2 ∧ (bothS a as b bs n).2.2 ≤ bs ∧
    ((bothS a as b bs n).2.2 ≠ 0 → 0 ≤ (bothS a as b bs n).1 ∧ (bothS a as b bs n).1 + (bothS a as b bs n).2.2 ≤ as ∧ 0 ≤ (bothS a as b bs n).2.1 ∧ (bothS a as b bs n).2.1 + (bothS a as b bs n).2.2 ≤ bs ∧ (bothS a as b bs n).1 - a = (bothS a as b bs n).2.1 - b) ∧
    ∀ i, (0 ≤ i ∧ i < n ∧ 0 ≤ a + i ∧ a + i < as ∧ 0 ≤ b + i ∧ b + i < bs) ↔ ((bothS a as b bs n).2.2 ≠ 0 ∧ (bothS a as b bs n).2.1 - b ≤ i ∧ i < (bothS a as b bs n).2.1 - b + (bothS a as b bs n).2.2) := by
  have r1 := cutS_rng (off := a) (n := n) (size := as) ha
  have z1 := fun i : Int => cutS_spec (off := a) (n := n) (size := as) (i := i) (by omega)
  unfold bothS
  generalize cutS a n as = c1 at *
  obtain ⟨s1, l1⟩ := c1
  dsimp only at r1 z1 ⊢
  unfold i64r at ha' hb'
  split
  · rename_i h
    refine ⟨by dsimp only; omega, by dsimp only; omega, fun h => absurd rfl h, fun i => ⟨fun hi => ?_, fun hi => absurd rfl hi.1⟩⟩
    have := (z1 i).1 (by omega)
    omega
  · rename_i h
    have r2 := cutS_rng (off := b + s1) (n := l1) (size := bs) hb
    have z2 := fun i : Int => cutS_spec (off := b + s1) (n := l1) (size := bs) (i := i) (by omega)
    generalize cutS (b + s1) l1 bs = c2 at *
    obtain ⟨s2, l2⟩ := c2
    dsimp only at r2 z2 ⊢
    refine ⟨by omega, by omega, fun h2 => ?_, fun i => ?_⟩
    · have := r2.2.2.2.1 h2; have := r1.2.2.2.1 (by omega); omega
    · have a1 := z1 i
      have a2 := z2 (i - s1)
      constructor
      · intro hi
        have b1 := a1.1 (by omega)
        have b2 := a2.1 (by omega)
        omega
      · rintro ⟨h1, h2, h3⟩
        have b2 := a2.2 (by omega)
        have b1 := a1.2 (by omega)
        omega
theorem both_ct (hp : HasBm P) {a as b bs n : Int} (ha : 1 ≤ as ∧ as ≤ 1048576) (hb : 1 ≤ bs ∧ bs ≤ 1048576) (ha' : i64r a) (hb' : i64r b) (hn : i64r n)
    (hQ : Q (.ret (.tup [.int .i64 (bothS a as b bs n).1, .int .i64 (bothS a as b bs n).2.1, .int .i64 (bothS a as b bs n).2.2])) H) : Call P 54 [.int .i64 a, .int .i64 as, .int .i64 b, .int .i64 bs, .int .i64 n] H Q := by
  have r1 := cutS_rng (off := a) (n := n) (size := as) ha.1
  have k1 := cutS_skip (off := a) (n := n) (size := as) ha'
  have m1 : (cutS a n as).1 ≠ 0 → (cutS a n as).1 = -a ∧ a < 0 := cutS_lt
  unfold bothS at hQ
  refine call_of hp.h_bitmap_both rfl ?_
  simp -implicitDefEqProofs -dsimp (disch := omega) only [go_sem, Nat.reduceEqDiff, ↓reduceIte, Nat.reduceAdd, Nat.reduceMul, Nat.reduceSub, Nat.reduceLT, Nat.reduceLeDiff, Int.reduceLT, Int.reduceLE, Int.reduceEq, Int.reduceNeg, Int.reduceAdd, Int.reduceMul, Int.reduceSub, Int.reduceToNat, reduceCtorEq, dec_t, dec_f, ]
  refine cut_ct hp ha' hn (by omega) ?_
  generalize cutS a n as = c1 at *
  obtain ⟨s1, l1⟩ := c1
  dsimp only at r1 k1 hQ m1
  unfold i64r at ha' hb' hn
  have hs1 : l1 ≠ 0 → s1 ≤ 9223372036854775807 := fun h => by have := r1.2.2.2.1 h; omega
  by_cases c : l1 = 0
  · rw [if_pos (Or.inl c)] at hQ
    simp -implicitDefEqProofs -dsimp (disch := omega) only [go_sem, Nat.reduceEqDiff, ↓reduceIte, Nat.reduceAdd, Nat.reduceMul, Nat.reduceSub, Nat.reduceLT, Nat.reduceLeDiff, Int.reduceLT, Int.reduceLE, Int.reduceEq, Int.reduceNeg, Int.reduceAdd, Int.reduceMul, Int.reduceSub, Int.reduceToNat, reduceCtorEq, dec_t, dec_f, w64]; exact hQ
  · have hs1 := hs1 c
    by_cases d : 9223372036854775807 - s1 < b
    · rw [if_pos (Or.inr d)] at hQ
      simp -implicitDefEqProofs -dsimp (disch := omega) only [go_sem, Nat.reduceEqDiff, ↓reduceIte, Nat.reduceAdd, Nat.reduceMul, Nat.reduceSub, Nat.reduceLT, Nat.reduceLeDiff, Int.reduceLT, Int.reduceLE, Int.reduceEq, Int.reduceNeg, Int.reduceAdd, Int.reduceMul, Int.reduceSub, Int.reduceToNat, reduceCtorEq, dec_t, dec_f, w64]; exact hQ
    · rw [if_neg (fun e => e.elim c d)] at hQ
      have ho : i64r (b + s1) := by unfold i64r; omega
      have k2 := cutS_skip (off := b + s1) (n := l1) (size := bs) ho
      have r2 := cutS_rng (off := b + s1) (n := l1) (size := bs) hb.1
      simp -implicitDefEqProofs -dsimp (disch := omega) only [go_sem, Nat.reduceEqDiff, ↓reduceIte, Nat.reduceAdd, Nat.reduceMul, Nat.reduceSub, Nat.reduceLT, Nat.reduceLeDiff, Int.reduceLT, Int.reduceLE, Int.reduceEq, Int.reduceNeg, Int.reduceAdd, Int.reduceMul, Int.reduceSub, Int.reduceToNat, reduceCtorEq, dec_t, dec_f, w64]
      refine cut_ct hp ho (by omega) (by omega) ?_
      have m2 : (cutS (b + s1) l1 bs).1 ≠ 0 → (cutS (b + s1) l1 bs).1 = -(b + s1) ∧ b + s1 < 0 := cutS_lt
      generalize cutS (b + s1) l1 bs = c2 at *
      obtain ⟨s2, l2⟩ := c2
      dsimp only at r2 k2 hQ m2
      simp -implicitDefEqProofs -dsimp (disch := omega) only [go_sem, Nat.reduceEqDiff, ↓reduceIte, Nat.reduceAdd, Nat.reduceMul, Nat.reduceSub, Nat.reduceLT, Nat.reduceLeDiff, Int.reduceLT, Int.reduceLE, Int.reduceEq, Int.reduceNeg, Int.reduceAdd, Int.reduceMul, Int.reduceSub, Int.reduceToNat, reduceCtorEq, dec_t, dec_f, w64]
      exact hQ
end
end Go.Ab
