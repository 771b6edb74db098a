/- Maps: set, counted, compared. Conditions: none. -/
import Derived.Test.YtdkgdneiilnppaaCf
set_option linter.all false
namespace Go.Ab

def insideB (w h : Nat) (x y : Int) : Prop := 0 ≤ x ∧ x < w ∧ 0 ≤ y ∧ y < h
instance (w h : Nat) (x y : Int) : Decidable (insideB w h x y) := by unfold insideB; infer_instance
def setR (w h : Nat) (x y bit : Int) : Int := if insideB w h x y then (if bit = 0 ∨ bit = 1 then 0 else 23) else 22
def setP (w h : Nat) (p : Nat → Nat → Bool) (x y bit : Int) : Nat → Nat → Bool := if insideB w h x y ∧ (bit = 0 ∨ bit = 1) then updP p x.toNat y.toNat (decide (bit = 1)) else p

section
variable {P : Prog} {H : Heap} {R : List As} {Q : Out → Heap → Prop} {m w h : Nat} {p : Nat → Nat → Bool}

theorem set_ct (hp : HasBm P) (hs : Hs H (MapA m w h p :: R)) {x y bit : Int} (hQ : ∀ H', Hs H' (MapA m w h (setP w h p x y bit) :: R) → Q (.ret (.int .i64 (setR w h x y bit))) H') :
    Call P 50 [.ptr (some (m, 0)), .int .i64 x, .int .i64 y, .int .i64 bit] H Q := by
  refine call_of hp.h_bitmap_Map_Set rfl ?_
  simp -implicitDefEqProofs -dsimp (disch := omega) only [go_sem, Nat.reduceEqDiff, ↓reduceIte, Nat.reduceAdd, Nat.reduceMul, Nat.reduceSub, Nat.reduceLT, Nat.reduceLeDiff, Int.reduceLT, Int.reduceLE, Int.reduceEq, Int.reduceNeg, Int.reduceAdd, Int.reduceMul, Int.reduceSub, Int.reduceToNat, reduceCtorEq, dec_t, dec_f, ]
  refine inside_ct hp hs ?_
  unfold setR setP at hQ
  by_cases c : insideB w h x y
  · have c' : 0 ≤ x ∧ x < w ∧ 0 ≤ y ∧ y < h := c
    rw [decide_eq_true c']
    by_cases hb : bit = 0 ∨ bit = 1
    · rw [if_pos ⟨c, hb⟩, if_pos c, if_pos hb] at hQ
      obtain ⟨xn, rfl⟩ : ∃ xn : Nat, x = xn := ⟨x.toNat, by omega⟩
      obtain ⟨yn, rfl⟩ : ∃ yn : Nat, y = yn := ⟨y.toNat, by omega⟩
      rw [Int.toNat_natCast, Int.toNat_natCast] at hQ
      rcases hb with rfl | rfl
      · simp -implicitDefEqProofs -dsimp (disch := omega) only [go_sem, Nat.reduceEqDiff, ↓reduceIte, Nat.reduceAdd, Nat.reduceMul, Nat.reduceSub, Nat.reduceLT, Nat.reduceLeDiff, Int.reduceLT, Int.reduceLE, Int.reduceEq, Int.reduceNeg, Int.reduceAdd, Int.reduceMul, Int.reduceSub, Int.reduceToNat, reduceCtorEq, dec_t, dec_f, ]
        refine put_ct hp hs (bit := false) (by omega) (by omega) fun H' h2 => ?_
        simp -implicitDefEqProofs -dsimp (disch := omega) only [go_sem, Nat.reduceEqDiff, ↓reduceIte, Nat.reduceAdd, Nat.reduceMul, Nat.reduceSub, Nat.reduceLT, Nat.reduceLeDiff, Int.reduceLT, Int.reduceLE, Int.reduceEq, Int.reduceNeg, Int.reduceAdd, Int.reduceMul, Int.reduceSub, Int.reduceToNat, reduceCtorEq, dec_t, dec_f, ]
        exact hQ H' h2
      · simp -implicitDefEqProofs -dsimp (disch := omega) only [go_sem, Nat.reduceEqDiff, ↓reduceIte, Nat.reduceAdd, Nat.reduceMul, Nat.reduceSub, Nat.reduceLT, Nat.reduceLeDiff, Int.reduceLT, Int.reduceLE, Int.reduceEq, Int.reduceNeg, Int.reduceAdd, Int.reduceMul, Int.reduceSub, Int.reduceToNat, reduceCtorEq, dec_t, dec_f, ]
        refine put_ct hp hs (bit := true) (by omega) (by omega) fun H' h2 => ?_
        simp -implicitDefEqProofs -dsimp (disch := omega) only [go_sem, Nat.reduceEqDiff, ↓reduceIte, Nat.reduceAdd, Nat.reduceMul, Nat.reduceSub, Nat.reduceLT, Nat.reduceLeDiff, Int.reduceLT, Int.reduceLE, Int.reduceEq, Int.reduceNeg, Int.reduceAdd, Int.reduceMul, Int.reduceSub, Int.reduceToNat, reduceCtorEq, dec_t, dec_f, ]
        exact hQ H' h2
    · rw [if_neg (fun e => hb e.2), if_pos c, if_neg hb] at hQ
      simp -implicitDefEqProofs -dsimp (disch := omega) only [go_sem, Nat.reduceEqDiff, ↓reduceIte, Nat.reduceAdd, Nat.reduceMul, Nat.reduceSub, Nat.reduceLT, Nat.reduceLeDiff, Int.reduceLT, Int.reduceLE, Int.reduceEq, Int.reduceNeg, Int.reduceAdd, Int.reduceMul, Int.reduceSub, Int.reduceToNat, reduceCtorEq, dec_t, dec_f, ]
      exact hQ H hs
  · rw [decide_eq_false (show ¬ (0 ≤ x ∧ x < w ∧ 0 ≤ y ∧ y < h) from c)]
    rw [if_neg (fun e => c e.1), if_neg c] at hQ
    simp -implicitDefEqProofs -dsimp (disch := omega) only [go_sem, Nat.reduceEqDiff, ↓reduceIte, Nat.reduceAdd, Nat.reduceMul, Nat.reduceSub, Nat.reduceLT, Nat.reduceLeDiff, Int.reduceLT, Int.reduceLE, Int.reduceEq, Int.reduceNeg, Int.reduceAdd, Int.reduceMul, Int.reduceSub, Int.reduceToNat, reduceCtorEq, dec_t, dec_f, ]
    exact hQ H hs

def CtI (w h : Nat) (p : Nat → Nat → Bool) (b : Nat) (H0 : Heap) (k : Nat) (fr : Fr) (H : Heap) : Prop :=
  ∃ i : Nat, k = h * wds w - i ∧ i ≤ h * wds w ∧ fr = ⟨[(3, .int .i64 (sumN (fun j => cntF (wb (word w p (j / wds w) (j % wds w))) 64) i : Nat)), (9, .sl (some (b, 0)) (h * wds w) (h * wds w) 1), (10, .int .i64 (h * wds w : Nat)), (11, .int .i64 i)], []⟩ ∧ H = H0
theorem count_ct (hp : HasBm P) (hs : Hs H (MapA m w h p :: R)) (hQ : Q (.ret (.int .i64 (cnt2 w p h : Nat))) H) : Call P 52 [.ptr (some (m, 0))] H Q := by
  obtain ⟨b, k⟩ := mapV hs
  have hwd : 0 < wds w := by have := k.w1; unfold wds; omega
  refine call_of hp.h_bitmap_Map_Count rfl ?_
  simp -implicitDefEqProofs -dsimp (disch := omega) only [go_sem, Nat.reduceEqDiff, ↓reduceIte, Nat.reduceAdd, Nat.reduceMul, Nat.reduceSub, Nat.reduceLT, Nat.reduceLeDiff, Int.reduceLT, Int.reduceLE, Int.reduceEq, Int.reduceNeg, Int.reduceAdd, Int.reduceMul, Int.reduceSub, Int.reduceToNat, reduceCtorEq, dec_t, dec_f, rd_s k.cell]
  refine loop_inv (CtI w h p b H) ?_ _ _ _ ⟨0, rfl, by omega, rfl, rfl⟩
  rintro k2 fr H1 ⟨i, hk, hi, rfl, rfl⟩
  generalize hK : rnd (CtI w h p b H1) k2 = K
  have hle : sumN (fun j => cntF (wb (word w p (j / wds w) (j % wds w))) 64) i ≤ i * 64 := sumN_le fun j _ => cntF_le _ _
  have hwl := k.words
  by_cases c : i < h * wds w
  · have hy : i / wds w < h := Nat.div_lt_of_lt_mul (by rw [Nat.mul_comm]; exact c)
    have hx : i % wds w < wds w := Nat.mod_lt _ hwd
    have hj : i / wds w * wds w + i % wds w = i := by rw [Nat.mul_comm]; exact Nat.div_add_mod i (wds w)
    have hr := k.rd _ _ hy hx
    rw [hj] at hr
    have hcl := cntF_le (wb (word w p (i / wds w) (i % wds w))) 64
    simp -implicitDefEqProofs -dsimp (disch := omega) only [go_sem, Nat.reduceEqDiff, ↓reduceIte, Nat.reduceAdd, Nat.reduceMul, Nat.reduceSub, Nat.reduceLT, Nat.reduceLeDiff, Int.reduceLT, Int.reduceLE, Int.reduceEq, Int.reduceNeg, Int.reduceAdd, Int.reduceMul, Int.reduceSub, Int.reduceToNat, reduceCtorEq, dec_t, dec_f, bitmap_Map_Count_l0, Int.toNat_natCast, Nat.mul_one, hr]
    refine ones_ct hp (word_lt _ _ _ _) ?_
    simp -implicitDefEqProofs -dsimp (disch := omega) only [go_sem, Nat.reduceEqDiff, ↓reduceIte, Nat.reduceAdd, Nat.reduceMul, Nat.reduceSub, Nat.reduceLT, Nat.reduceLeDiff, Int.reduceLT, Int.reduceLE, Int.reduceEq, Int.reduceNeg, Int.reduceAdd, Int.reduceMul, Int.reduceSub, Int.reduceToNat, reduceCtorEq, dec_t, dec_f, w64, cadd, cadd1]
    subst hK
    exact rnd_n (h * wds w - (i + 1)) (by omega) ⟨i + 1, rfl, by omega, rfl, rfl⟩
  · obtain rfl : i = h * wds w := by omega
    simp -implicitDefEqProofs -dsimp (disch := omega) only [go_sem, Nat.reduceEqDiff, ↓reduceIte, Nat.reduceAdd, Nat.reduceMul, Nat.reduceSub, Nat.reduceLT, Nat.reduceLeDiff, Int.reduceLT, Int.reduceLE, Int.reduceEq, Int.reduceNeg, Int.reduceAdd, Int.reduceMul, Int.reduceSub, Int.reduceToNat, reduceCtorEq, dec_t, dec_f, bitmap_Map_Count_l0]
    subst hK
    rw [cnt_all w p hwd h]
    simp -implicitDefEqProofs -dsimp (disch := omega) only [go_sem, Nat.reduceEqDiff, ↓reduceIte, Nat.reduceAdd, Nat.reduceMul, Nat.reduceSub, Nat.reduceLT, Nat.reduceLeDiff, Int.reduceLT, Int.reduceLE, Int.reduceEq, Int.reduceNeg, Int.reduceAdd, Int.reduceMul, Int.reduceSub, Int.reduceToNat, reduceCtorEq, dec_t, dec_f, ]
    exact hQ

def SeI (H : Heap) (x y : V) (bs cs : List Nat) (m : Nat) (fr : Fr) (H' : Heap) : Prop :=
  ∃ i : Nat, m = bs.length - i ∧ i ≤ bs.length ∧ fr = ⟨[(0, x), (1, y), (12, .int .i64 bs.length), (13, .int .i64 i)], []⟩ ∧ H = H' ∧ bs.take i = cs.take i
theorem arr_w {H : Heap} {v : V} {ns : List Nat} (h : Arr H v 1 ns.length (u64s ns)) {i : Nat} (hi : i < ns.length) : ∃ b o c, v = .sl (some (b, o)) ns.length c 1 ∧ rd H none b (o + i) = some (.int .u64 (ns[i] : Nat)) := arr_u64 h hi
theorem sequal_ct (hp : HasBm P) {x y : V} {bs cs : List Nat} (hx : Arr H x 1 bs.length (u64s bs)) (hy : Arr H y 1 cs.length (u64s cs)) (hl : bs.length ≤ 281474976710656) (hQ : Q (.ret (.bool (decide (bs = cs)))) H) : Call P 72 [x, y] H Q := by
  obtain ⟨a1, c1, e1, rfl⟩ := hx.shape
  obtain ⟨a2, c2, e2, rfl⟩ := hy.shape
  refine call_of hp.h_slices_Equal_uint64_uint64 rfl ?_
  by_cases hlen : bs.length = cs.length
  · simp -implicitDefEqProofs -dsimp (disch := omega) only [go_sem, Nat.reduceEqDiff, ↓reduceIte, Nat.reduceAdd, Nat.reduceMul, Nat.reduceSub, Nat.reduceLT, Nat.reduceLeDiff, Int.reduceLT, Int.reduceLE, Int.reduceEq, Int.reduceNeg, Int.reduceAdd, Int.reduceMul, Int.reduceSub, Int.reduceToNat, reduceCtorEq, dec_t, dec_f, ]
    refine loop_inv (SeI H _ _ bs cs) ?_ bs.length _ _ ⟨0, by omega, by omega, rfl, rfl, by simp⟩
    rintro m2 fr H1 ⟨i, hm, hi, rfl, rfl, ht⟩
    generalize hK : rnd (SeI H _ _ bs cs) m2 = K
    by_cases hib : i < bs.length
    · have hic : i < cs.length := by omega
      obtain ⟨b3, o3, c3, hv3, hr3⟩ := arr_u64 hx hib
      obtain ⟨b4, o4, c4, hv4, hr4⟩ := arr_u64 hy hic
      cases hv3; cases hv4
      by_cases he : bs[i] = cs[i]
      · simp -implicitDefEqProofs -dsimp (disch := omega) only [go_sem, Nat.reduceEqDiff, ↓reduceIte, Nat.reduceAdd, Nat.reduceMul, Nat.reduceSub, Nat.reduceLT, Nat.reduceLeDiff, Int.reduceLT, Int.reduceLE, Int.reduceEq, Int.reduceNeg, Int.reduceAdd, Int.reduceMul, Int.reduceSub, Int.reduceToNat, reduceCtorEq, dec_t, dec_f, slices_Equal_uint64_uint64_l0, Int.toNat_natCast, Nat.mul_one, hr3, hr4, w64, cadd1]
        subst hK
        refine rnd_n (bs.length - (i + 1)) (by omega) ⟨i + 1, rfl, by omega, rfl, rfl, ?_⟩
        rw [List.take_succ_eq_append_getElem hib, List.take_succ_eq_append_getElem hic, ht, he]
      · have hne : ¬ ((bs[i] : Nat) : Int) = ((cs[i] : Nat) : Int) := by omega
        simp -implicitDefEqProofs -dsimp (disch := omega) only [go_sem, Nat.reduceEqDiff, ↓reduceIte, Nat.reduceAdd, Nat.reduceMul, Nat.reduceSub, Nat.reduceLT, Nat.reduceLeDiff, Int.reduceLT, Int.reduceLE, Int.reduceEq, Int.reduceNeg, Int.reduceAdd, Int.reduceMul, Int.reduceSub, Int.reduceToNat, reduceCtorEq, dec_t, dec_f, slices_Equal_uint64_uint64_l0, Int.toNat_natCast, Nat.mul_one, hr3, hr4]
        subst hK
        simp -implicitDefEqProofs -dsimp (disch := omega) only [go_sem, Nat.reduceEqDiff, ↓reduceIte, Nat.reduceAdd, Nat.reduceMul, Nat.reduceSub, Nat.reduceLT, Nat.reduceLeDiff, Int.reduceLT, Int.reduceLE, Int.reduceEq, Int.reduceNeg, Int.reduceAdd, Int.reduceMul, Int.reduceSub, Int.reduceToNat, reduceCtorEq, dec_t, dec_f, ]
        rw [show decide (bs = cs) = false from decide_eq_false fun e => he (by subst e; rfl)] at hQ
        exact hQ
    · obtain rfl : i = bs.length := by omega
      simp -implicitDefEqProofs -dsimp (disch := omega) only [go_sem, Nat.reduceEqDiff, ↓reduceIte, Nat.reduceAdd, Nat.reduceMul, Nat.reduceSub, Nat.reduceLT, Nat.reduceLeDiff, Int.reduceLT, Int.reduceLE, Int.reduceEq, Int.reduceNeg, Int.reduceAdd, Int.reduceMul, Int.reduceSub, Int.reduceToNat, reduceCtorEq, dec_t, dec_f, slices_Equal_uint64_uint64_l0]
      subst hK
      simp -implicitDefEqProofs -dsimp (disch := omega) only [go_sem, Nat.reduceEqDiff, ↓reduceIte, Nat.reduceAdd, Nat.reduceMul, Nat.reduceSub, Nat.reduceLT, Nat.reduceLeDiff, Int.reduceLT, Int.reduceLE, Int.reduceEq, Int.reduceNeg, Int.reduceAdd, Int.reduceMul, Int.reduceSub, Int.reduceToNat, reduceCtorEq, dec_t, dec_f, ]
      have e : bs = cs := by rw [List.take_length, hlen, List.take_length] at ht; exact ht
      rw [show decide (bs = cs) = true from decide_eq_true e] at hQ
      exact hQ
  · simp -implicitDefEqProofs -dsimp (disch := omega) only [go_sem, Nat.reduceEqDiff, ↓reduceIte, Nat.reduceAdd, Nat.reduceMul, Nat.reduceSub, Nat.reduceLT, Nat.reduceLeDiff, Int.reduceLT, Int.reduceLE, Int.reduceEq, Int.reduceNeg, Int.reduceAdd, Int.reduceMul, Int.reduceSub, Int.reduceToNat, reduceCtorEq, dec_t, dec_f, ]
    rw [show decide (bs = cs) = false from decide_eq_false fun e => hlen (by rw [e])] at hQ
    exact hQ

theorem equal_ct (hp : HasBm P) {w1 h1 w2 h2 : Int} {v1 v2 : V} {ws1 ws2 : List Nat} (hs : Hs H R) (hv1 : ∀ {H'}, Same (fun _ => False) H H' → Arr H' v1 1 ws1.length (u64s ws1)) (hv2 : ∀ {H'}, Same (fun _ => False) H H' → Arr H' v2 1 ws2.length (u64s ws2))
    (hl1 : ∀ n ∈ ws1, n < 18446744073709551616) (hl2 : ∀ n ∈ ws2, n < 18446744073709551616) (hb1 : ws1.length ≤ 281474976710656)
    (hw1 : -9223372036854775808 ≤ w1 ∧ w1 ≤ 9223372036854775807) (hh1 : -9223372036854775808 ≤ h1 ∧ h1 ≤ 9223372036854775807) (hw2 : -9223372036854775808 ≤ w2 ∧ w2 ≤ 9223372036854775807) (hh2 : -9223372036854775808 ≤ h2 ∧ h2 ≤ 9223372036854775807)
    (hQ : ∀ r H', (r = true ↔ mayB w1 h1 ws1 ∧ w1 = w2 ∧ h1 = h2 ∧ ws1 = ws2) → Hs H' R → Same (fun _ => False) H H' → Q (.ret (.bool r)) H') : Call P 73 [.agg [.int .i64 w1, .int .i64 h1, v1], .agg [.int .i64 w2, .int .i64 h2, v2]] H Q := by
  obtain ⟨a1, c1, e1, rfl⟩ := (hv1 (Same.refl _ _)).shape
  obtain ⟨a2, c2, e2, rfl⟩ := (hv2 (Same.refl _ _)).shape
  refine call_of hp.h_bitmap_Equal rfl ?_
  have g1 := hs.alloc (l := [.int .i64 w1, .int .i64 h1, .sl a1 ws1.length c1 e1])
  have g2 : Hs ((H.new (.cells [.int .i64 w1, .int .i64 h1, .sl a1 ws1.length c1 e1] true)).new (.cells [.int .i64 w2, .int .i64 h2, .sl a2 ws2.length c2 e2] true)) (Cel (H.next + 1) [.int .i64 w2, .int .i64 h2, .sl a2 ws2.length c2 e2] :: Cel H.next [.int .i64 w1, .int .i64 h1, .sl a1 ws1.length c1 e1] :: R) := g1.alloc
  have s12 : Same (fun _ => False) H ((H.new (.cells [.int .i64 w1, .int .i64 h1, .sl a1 ws1.length c1 e1] true)).new (.cells [.int .i64 w2, .int .i64 h2, .sl a2 ws2.length c2 e2] true)) := (Same.new _ _ _).trans (Same.new (fun _ => False) _ _) fun _ _ h => h
  clear g1
  simp -implicitDefEqProofs -dsimp (disch := omega) only [go_sem, Nat.reduceEqDiff, ↓reduceIte, Nat.reduceAdd, Nat.reduceMul, Nat.reduceSub, Nat.reduceLT, Nat.reduceLeDiff, Int.reduceLT, Int.reduceLE, Int.reduceEq, Int.reduceNeg, Int.reduceAdd, Int.reduceMul, Int.reduceSub, Int.reduceToNat, reduceCtorEq, dec_t, dec_f, ]
  generalize (H.new (.cells [.int .i64 w1, .int .i64 h1, .sl a1 ws1.length c1 e1] true)).new (.cells [.int .i64 w2, .int .i64 h2, .sl a2 ws2.length c2 e2] true) = H2 at g2 s12
  generalize H.next = b1 at g2
  have hc2 := g2.cel
  have hc1 := g2.p1.cel
  simp -implicitDefEqProofs -dsimp (disch := omega) only [go_sem, Nat.reduceEqDiff, ↓reduceIte, Nat.reduceAdd, Nat.reduceMul, Nat.reduceSub, Nat.reduceLT, Nat.reduceLeDiff, Int.reduceLT, Int.reduceLE, Int.reduceEq, Int.reduceNeg, Int.reduceAdd, Int.reduceMul, Int.reduceSub, Int.reduceToNat, reduceCtorEq, dec_t, dec_f, rd_m hc1]
  refine check_ct hp g2 (hv1 s12) hl1 hw1 hh1 fun r1 H3 hr1 g3 s3 => ?_
  have hc2 := g3.cel
  have hc1 := g3.p1.cel
  have s13 := s12.trans s3 fun _ _ h => h
  cases r1 with
  | false =>
    simp -implicitDefEqProofs -dsimp (disch := omega) only [go_sem, Nat.reduceEqDiff, ↓reduceIte, Nat.reduceAdd, Nat.reduceMul, Nat.reduceSub, Nat.reduceLT, Nat.reduceLeDiff, Int.reduceLT, Int.reduceLE, Int.reduceEq, Int.reduceNeg, Int.reduceAdd, Int.reduceMul, Int.reduceSub, Int.reduceToNat, reduceCtorEq, dec_t, dec_f, rd_s hc1, rd_s hc2]
    exact hQ false H3 ⟨(fun h => by cases h), fun h => by have := hr1.2 h.1; cases this⟩ g3.tail.tail s13
  | true =>
    simp -implicitDefEqProofs -dsimp (disch := omega) only [go_sem, Nat.reduceEqDiff, ↓reduceIte, Nat.reduceAdd, Nat.reduceMul, Nat.reduceSub, Nat.reduceLT, Nat.reduceLeDiff, Int.reduceLT, Int.reduceLE, Int.reduceEq, Int.reduceNeg, Int.reduceAdd, Int.reduceMul, Int.reduceSub, Int.reduceToNat, reduceCtorEq, dec_t, dec_f, rd_m hc2]
    refine check_ct hp g3 (hv2 s13) hl2 hw2 hh2 fun r2 H4 hr2 g4 s4 => ?_
    have hc2 := g4.cel
    have hc1 := g4.p1.cel
    have s14 := s13.trans s4 fun _ _ h => h
    by_cases hww : w1 = w2
    · by_cases hhh : h1 = h2
      · cases r2 with
        | false =>
          simp -implicitDefEqProofs -dsimp (disch := omega) only [go_sem, Nat.reduceEqDiff, ↓reduceIte, Nat.reduceAdd, Nat.reduceMul, Nat.reduceSub, Nat.reduceLT, Nat.reduceLeDiff, Int.reduceLT, Int.reduceLE, Int.reduceEq, Int.reduceNeg, Int.reduceAdd, Int.reduceMul, Int.reduceSub, Int.reduceToNat, reduceCtorEq, dec_t, dec_f, ]
          exact hQ false H4 ⟨(fun h => by cases h), fun h => by
            have := hr2.2 (by rw [← h.2.1, ← h.2.2.1, ← h.2.2.2]; exact h.1); cases this⟩ g4.tail.tail s14
        | true =>
          simp -implicitDefEqProofs -dsimp (disch := omega) only [go_sem, Nat.reduceEqDiff, ↓reduceIte, Nat.reduceAdd, Nat.reduceMul, Nat.reduceSub, Nat.reduceLT, Nat.reduceLeDiff, Int.reduceLT, Int.reduceLE, Int.reduceEq, Int.reduceNeg, Int.reduceAdd, Int.reduceMul, Int.reduceSub, Int.reduceToNat, reduceCtorEq, dec_t, dec_f, rd_s hc1, rd_s hc2]
          refine sequal_ct hp (hv1 s14) (hv2 s14) hb1 ?_
          simp -implicitDefEqProofs -dsimp (disch := omega) only [go_sem, Nat.reduceEqDiff, ↓reduceIte, Nat.reduceAdd, Nat.reduceMul, Nat.reduceSub, Nat.reduceLT, Nat.reduceLeDiff, Int.reduceLT, Int.reduceLE, Int.reduceEq, Int.reduceNeg, Int.reduceAdd, Int.reduceMul, Int.reduceSub, Int.reduceToNat, reduceCtorEq, dec_t, dec_f, ]
          exact hQ _ H4 ⟨fun h => ⟨hr1.1 rfl, hww, hhh, of_decide_eq_true h⟩, fun h => decide_eq_true h.2.2.2⟩ g4.tail.tail s14
      · cases r2 with
        | false =>
          simp -implicitDefEqProofs -dsimp (disch := omega) only [go_sem, Nat.reduceEqDiff, ↓reduceIte, Nat.reduceAdd, Nat.reduceMul, Nat.reduceSub, Nat.reduceLT, Nat.reduceLeDiff, Int.reduceLT, Int.reduceLE, Int.reduceEq, Int.reduceNeg, Int.reduceAdd, Int.reduceMul, Int.reduceSub, Int.reduceToNat, reduceCtorEq, dec_t, dec_f, rd_s hc1, rd_s hc2]
          exact hQ false H4 ⟨(fun h => by cases h), fun h => absurd h.2.2.1 hhh⟩ g4.tail.tail s14
        | true =>
          simp -implicitDefEqProofs -dsimp (disch := omega) only [go_sem, Nat.reduceEqDiff, ↓reduceIte, Nat.reduceAdd, Nat.reduceMul, Nat.reduceSub, Nat.reduceLT, Nat.reduceLeDiff, Int.reduceLT, Int.reduceLE, Int.reduceEq, Int.reduceNeg, Int.reduceAdd, Int.reduceMul, Int.reduceSub, Int.reduceToNat, reduceCtorEq, dec_t, dec_f, rd_s hc1, rd_s hc2]
          exact hQ false H4 ⟨(fun h => by cases h), fun h => absurd h.2.2.1 hhh⟩ g4.tail.tail s14
    · cases r2 with
      | false =>
        simp -implicitDefEqProofs -dsimp (disch := omega) only [go_sem, Nat.reduceEqDiff, ↓reduceIte, Nat.reduceAdd, Nat.reduceMul, Nat.reduceSub, Nat.reduceLT, Nat.reduceLeDiff, Int.reduceLT, Int.reduceLE, Int.reduceEq, Int.reduceNeg, Int.reduceAdd, Int.reduceMul, Int.reduceSub, Int.reduceToNat, reduceCtorEq, dec_t, dec_f, rd_s hc1, rd_s hc2]
        exact hQ false H4 ⟨(fun h => by cases h), fun h => absurd h.2.1 hww⟩ g4.tail.tail s14
      | true =>
        simp -implicitDefEqProofs -dsimp (disch := omega) only [go_sem, Nat.reduceEqDiff, ↓reduceIte, Nat.reduceAdd, Nat.reduceMul, Nat.reduceSub, Nat.reduceLT, Nat.reduceLeDiff, Int.reduceLT, Int.reduceLE, Int.reduceEq, Int.reduceNeg, Int.reduceAdd, Int.reduceMul, Int.reduceSub, Int.reduceToNat, reduceCtorEq, dec_t, dec_f, rd_s hc1, rd_s hc2]
        exact hQ false H4 ⟨(fun h => by cases h), fun h => absurd h.2.1 hww⟩ g4.tail.tail s14
end
end Go.Ab
