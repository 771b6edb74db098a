/- The statements' own helpers: wakes, lists written over, same. Conditions: none. -/
import Derived.Test.YtdkgdneiilnppaaCr
import Derived.Test.YtdkgdneiilnppaaPL2h
import Derived.Test.YtdkgdneiilnppaaPKit2
import Derived.Test.YtdkgdneiilnppaaBkw
set_option linter.all false
namespace Go.Ab

structure HasL2 (P : Prog) : Prop where
  bm : HasBm P
  rz : HasRz P
  law : HasL2h P
  kit : HasKit2 P
  within : P 29 = some burinkit_Within
instance (n : Int) : Decidable (i64r n) := by unfold i64r; infer_instance
section
variable {P : Prog} {H : Heap} {R : List As} {Q : Out → Heap → Prop}

theorem wakes_ct (hq : HasL2 P) (hs : Hs H R) (hQ : ∀ H', Q (.ret (.bool true)) H') : Call P 99 [] H Q := by
  have hp := hq.bm
  have hz := hq.rz
  refine call_of hq.law.h_burinlaw2_wakes rfl ?_
  simp -implicitDefEqProofs -dsimp (disch := omega) only [go_sem, Nat.reduceEqDiff, ↓reduceIte, Nat.reduceAdd, Nat.reduceMul, Nat.reduceSub, Nat.reduceLT, Nat.reduceLeDiff, Int.reduceLT, Int.reduceLE, Int.reduceEq, Int.reduceNeg, Int.reduceAdd, Int.reduceMul, Int.reduceSub, Int.reduceToNat, reduceCtorEq, dec_t, dec_f, ]
  refine new_ct hp hs (by omega) (by omega) (fun k => absurd (show sizeOk 4 1 by decide) k) fun _ m H1 h1 _ => ?_
  simp -implicitDefEqProofs -dsimp (disch := omega) only [go_sem, Nat.reduceEqDiff, ↓reduceIte, Nat.reduceAdd, Nat.reduceMul, Nat.reduceSub, Nat.reduceLT, Nat.reduceLeDiff, Int.reduceLT, Int.reduceLE, Int.reduceEq, Int.reduceNeg, Int.reduceAdd, Int.reduceMul, Int.reduceSub, Int.reduceToNat, reduceCtorEq, dec_t, dec_f, ]
  refine set_ct hp h1 fun H2 h2 => ?_
  rw [show setR (Int.toNat 4) (Int.toNat 1) 0 0 1 = 0 by decide]
  simp -implicitDefEqProofs -dsimp (disch := omega) only [go_sem, Nat.reduceEqDiff, ↓reduceIte, Nat.reduceAdd, Nat.reduceMul, Nat.reduceSub, Nat.reduceLT, Nat.reduceLeDiff, Int.reduceLT, Int.reduceLE, Int.reduceEq, Int.reduceNeg, Int.reduceAdd, Int.reduceMul, Int.reduceSub, Int.reduceToNat, reduceCtorEq, dec_t, dec_f, ]
  refine set_ct hp h2 fun H3 h3 => ?_
  rw [show setR (Int.toNat 4) (Int.toNat 1) 1 0 1 = 0 by decide]
  simp -implicitDefEqProofs -dsimp (disch := omega) only [go_sem, Nat.reduceEqDiff, ↓reduceIte, Nat.reduceAdd, Nat.reduceMul, Nat.reduceSub, Nat.reduceLT, Nat.reduceLeDiff, Int.reduceLT, Int.reduceLE, Int.reduceEq, Int.reduceNeg, Int.reduceAdd, Int.reduceMul, Int.reduceSub, Int.reduceToNat, reduceCtorEq, dec_t, dec_f, ]
  refine blit_self hp h3 (by decide) (by decide) (by decide) (by decide) (by decide) (by decide) (by decide) fun H4 h4 => ?_
  rw [show blitR 3 1 4 = 0 by decide] at h4 ⊢
  simp -implicitDefEqProofs -dsimp (disch := omega) only [go_sem, Nat.reduceEqDiff, ↓reduceIte, Nat.reduceAdd, Nat.reduceMul, Nat.reduceSub, Nat.reduceLT, Nat.reduceLeDiff, Int.reduceLT, Int.reduceLE, Int.reduceEq, Int.reduceNeg, Int.reduceAdd, Int.reduceMul, Int.reduceSub, Int.reduceToNat, reduceCtorEq, dec_t, dec_f, ]
  have h5 := h4.mapc (q := fun i _ => decide (i < 3)) fun x y hx hy => by
    obtain rfl : y = 0 := by have : y < 1 := hy; omega
    rcases (show x = 0 ∨ x = 1 ∨ x = 2 ∨ x = 3 by have : x < 4 := hx; omega) with rfl | rfl | rfl | rfl <;> rfl
  refine count_ct hp h5 ?_
  rw [show cnt2 (Int.toNat 4) (fun i _ => decide (i < 3)) (Int.toNat 1) = 3 by decide]
  simp -implicitDefEqProofs -dsimp (disch := omega) only [go_sem, Nat.reduceEqDiff, ↓reduceIte, Nat.reduceAdd, Nat.reduceMul, Nat.reduceSub, Nat.reduceLT, Nat.reduceLeDiff, Int.reduceLT, Int.reduceLE, Int.reduceEq, Int.reduceNeg, Int.reduceAdd, Int.reduceMul, Int.reduceSub, Int.reduceToNat, reduceCtorEq, dec_t, dec_f, ]
  refine get_ct hp h5 ?_
  rw [show getV (Int.toNat 4) (Int.toNat 1) (fun i _ => decide (i < 3)) 2 0 = 1 by decide]
  simp -implicitDefEqProofs -dsimp (disch := omega) only [go_sem, Nat.reduceEqDiff, ↓reduceIte, Nat.reduceAdd, Nat.reduceMul, Nat.reduceSub, Nat.reduceLT, Nat.reduceLeDiff, Int.reduceLT, Int.reduceLE, Int.reduceEq, Int.reduceNeg, Int.reduceAdd, Int.reduceMul, Int.reduceSub, Int.reduceToNat, reduceCtorEq, dec_t, dec_f, ]
  refine get_ct hp h5 ?_
  rw [show getV (Int.toNat 4) (Int.toNat 1) (fun i _ => decide (i < 3)) 3 0 = 0 by decide]
  simp -implicitDefEqProofs -dsimp (disch := omega) only [go_sem, Nat.reduceEqDiff, ↓reduceIte, Nat.reduceAdd, Nat.reduceMul, Nat.reduceSub, Nat.reduceLT, Nat.reduceLeDiff, Int.reduceLT, Int.reduceLE, Int.reduceEq, Int.reduceNeg, Int.reduceAdd, Int.reduceMul, Int.reduceSub, Int.reduceToNat, reduceCtorEq, dec_t, dec_f, ]
  refine plain_ct hp h5 fun v H6 h6 _ => ?_
  have g7 := h6.alloc (l := u64s [16140901064495857664])
  have ha := h6.own.arr.same (Same.new (fun _ => False) H6 (.cells (u64s [16140901064495857664]) true)) fun _ _ h => h
  have hb : Arr (H6.new (.cells (u64s [16140901064495857664]) true)) (.sl (some (H6.next, 0)) 1 1 1) 1 [16140901064495857664].length (u64s [16140901064495857664]) := Or.inr ⟨H6.next, 0, 1, _, true, rfl, by simp [get_new]; rfl, by simp [u64s], by simp [u64s], Nat.le_refl _, by simp [next_new]⟩
  simp -implicitDefEqProofs -dsimp (disch := omega) only [go_sem, Nat.reduceEqDiff, ↓reduceIte, Nat.reduceAdd, Nat.reduceMul, Nat.reduceSub, Nat.reduceLT, Nat.reduceLeDiff, Int.reduceLT, Int.reduceLE, Int.reduceEq, Int.reduceNeg, Int.reduceAdd, Int.reduceMul, Int.reduceSub, Int.reduceToNat, reduceCtorEq, dec_t, dec_f, ]
  refine eqb_ct hz g7 ha hb (by simp [Wds_length]; decide) fun H8 h8 _ => ?_
  rw [show decide (((4 : Nat) : Int) = 4 ∧ ((1 : Nat) : Int) = 1 ∧ Wds (Int.toNat 4) (Int.toNat 1) (fun i _ => decide (i < 3)) = [16140901064495857664]) = true by decide +kernel]
  simp -implicitDefEqProofs -dsimp (disch := omega) only [go_sem, Nat.reduceEqDiff, ↓reduceIte, Nat.reduceAdd, Nat.reduceMul, Nat.reduceSub, Nat.reduceLT, Nat.reduceLeDiff, Int.reduceLT, Int.reduceLE, Int.reduceEq, Int.reduceNeg, Int.reduceAdd, Int.reduceMul, Int.reduceSub, Int.reduceToNat, reduceCtorEq, dec_t, dec_f, ]
  exact hQ H8

def OwI (x : V) (n : Nat) (R : List As) (m : Nat) (fr : Fr) (H : Heap) : Prop :=
  ∃ (i : Nat) (ws : List Nat), m = n - i ∧ i ≤ n ∧ ws.length = n ∧ fr = ⟨[(0, x), (2, .int .i64 (i : Nat))], []⟩ ∧ Hs H (Lst x 1 n (u64s ws) :: R)
theorem overw_ct (hq : HasL2 P) {x : V} {ws : List Nat} (hs : Hs H (Lst x 1 ws.length (u64s ws) :: R)) (hl : ws.length ≤ 1099511627776) (hQ : ∀ H', Hs H' R → Q (.ret (.tup [])) H') : Call P 97 [x] H Q := by
  obtain ⟨a, c, e', rfl⟩ := hs.own.arr.shape
  refine call_of hq.kit.h_burinkit_OverWords rfl ?_
  simp -implicitDefEqProofs -dsimp (disch := omega) only [go_sem, Nat.reduceEqDiff, ↓reduceIte, Nat.reduceAdd, Nat.reduceMul, Nat.reduceSub, Nat.reduceLT, Nat.reduceLeDiff, Int.reduceLT, Int.reduceLE, Int.reduceEq, Int.reduceNeg, Int.reduceAdd, Int.reduceMul, Int.reduceSub, Int.reduceToNat, reduceCtorEq, dec_t, dec_f, ]
  refine loop_inv (OwI _ ws.length R) ?_ ws.length _ _ ⟨0, ws, by omega, by omega, rfl, rfl, hs⟩
  rintro k fr H1 ⟨i, ws1, hk, hi, hwl, rfl, h1⟩
  generalize hK : rnd (OwI (.sl a ws.length c e') ws.length R) k = K
  by_cases hin : i < ws.length
  · obtain ⟨b, e, hb, hw, ho, hsm⟩ := wr_own h1.own (i := i) (k := 0) hin (vs := [.int .u64 23130]) (by simp) (by decide)
    cases e
    have h2 : Hs (H1.put b (.cells (over (u64s ws1) (i * 1 + 0) [.int .u64 23130]) true)) (Lst (.sl (some (b, 0)) ws.length ws.length 1) 1 ws.length (u64s (ws1.set i 23130)) :: R) := by
      refine h1.lst' hsm ?_ fun b hb => Or.inl hb
      have e : over (u64s ws1) (i * 1 + 0) [.int .u64 23130] = u64s (ws1.set i 23130) := by
        rw [Nat.mul_one, Nat.add_zero, over_one (by simp [u64s]; omega)]; simp [u64s, List.map_set]
      rw [e] at ho ⊢; exact ho
    rw [Nat.mul_one, Nat.add_zero] at hw h2
    simp -implicitDefEqProofs -dsimp (disch := omega) only [go_sem, Nat.reduceEqDiff, ↓reduceIte, Nat.reduceAdd, Nat.reduceMul, Nat.reduceSub, Nat.reduceLT, Nat.reduceLeDiff, Int.reduceLT, Int.reduceLE, Int.reduceEq, Int.reduceNeg, Int.reduceAdd, Int.reduceMul, Int.reduceSub, Int.reduceToNat, reduceCtorEq, dec_t, dec_f, burinkit_OverWords_l0, Int.toNat_natCast, Nat.mul_one, hw, w64, cadd1]
    subst hK
    exact rnd_n (ws.length - (i + 1)) (by omega) ⟨i + 1, _, rfl, by omega, by rw [List.length_set]; exact hwl, rfl, h2⟩
  · obtain rfl : i = ws.length := by omega
    simp -implicitDefEqProofs -dsimp (disch := omega) only [go_sem, Nat.reduceEqDiff, ↓reduceIte, Nat.reduceAdd, Nat.reduceMul, Nat.reduceSub, Nat.reduceLT, Nat.reduceLeDiff, Int.reduceLT, Int.reduceLE, Int.reduceEq, Int.reduceNeg, Int.reduceAdd, Int.reduceMul, Int.reduceSub, Int.reduceToNat, reduceCtorEq, dec_t, dec_f, burinkit_OverWords_l0]
    subst hK
    obtain ⟨v', H2, ha, ho, hsm, hf⟩ := app_one h1.own (M := [.int .u64 1, .int .u64 2]) (m := 2) (eb := 8) rfl (by decide) (by omega) (by omega)
    have h2 := h1.lst' hsm ho hf
    obtain ⟨b, e, hb, hw, ho2, hsm2⟩ := wr_own h2.own (i := ws.length) (k := 0) (by omega) (vs := [.int .u64 23130]) (by simp) (by decide)
    cases e
    rw [Nat.mul_one, Nat.add_zero] at hw
    simp -implicitDefEqProofs -dsimp (disch := omega) only [go_sem, Nat.reduceEqDiff, ↓reduceIte, Nat.reduceAdd, Nat.reduceMul, Nat.reduceSub, Nat.reduceLT, Nat.reduceLeDiff, Int.reduceLT, Int.reduceLE, Int.reduceEq, Int.reduceNeg, Int.reduceAdd, Int.reduceMul, Int.reduceSub, Int.reduceToNat, reduceCtorEq, dec_t, dec_f, ha, Int.toNat_natCast, Nat.mul_one, hw]
    have h3 := h2.lst' hsm2 ho2 fun _ h => Or.inl h
    rw [Nat.mul_one] at h3
    exact hQ _ h3.tail
theorem same_ct (hq : HasL2 P) {m w h : Nat} {p : Nat → Nat → Bool} (hs : Hs H (MapA m w h p :: R)) {w2 h2 : Int} {v2 : V} {cs : List Nat} (hy : ∀ H', Hs H' R → Arr H' v2 1 cs.length (u64s cs))
    (hQ : ∀ H', Hs H' (MapA m w h p :: R) → Q (.ret (.bool (decide ((w : Int) = w2 ∧ (h : Int) = h2 ∧ Wds w h p = cs)))) H') : Call P 101 [.ptr (some (m, 0)), .agg [.int .i64 w2, .int .i64 h2, v2]] H Q := by
  obtain ⟨z1, z2, z3, z4, z5⟩ := mapSz hs
  have kw := wds_le z3 z1
  obtain ⟨a2, c2, e2, rfl⟩ := (hy H hs.tail).shape
  refine call_of hq.law.h_burinlaw2_same rfl ?_
  have g1 := hs.alloc (l := [.int .i64 w2, .int .i64 h2, .sl a2 cs.length c2 e2])
  simp -implicitDefEqProofs -dsimp (disch := omega) only [go_sem, Nat.reduceEqDiff, ↓reduceIte, Nat.reduceAdd, Nat.reduceMul, Nat.reduceSub, Nat.reduceLT, Nat.reduceLeDiff, Int.reduceLT, Int.reduceLE, Int.reduceEq, Int.reduceNeg, Int.reduceAdd, Int.reduceMul, Int.reduceSub, Int.reduceToNat, reduceCtorEq, dec_t, dec_f, ]
  generalize H.new (.cells [.int .i64 w2, .int .i64 h2, .sl a2 cs.length c2 e2] true) = H1 at *
  generalize H.next = bx at *
  refine plain_ct hq.bm g1.p1 fun v H2 k2 _ => ?_
  obtain ⟨a3, c3, e3, hv3⟩ := k2.own.arr.shape
  subst hv3
  have g3 := k2.alloc (l := [.int .i64 w, .int .i64 h, .sl a3 (Wds w h p).length c3 e3])
  simp -implicitDefEqProofs -dsimp (disch := omega) only [go_sem, Nat.reduceEqDiff, ↓reduceIte, Nat.reduceAdd, Nat.reduceMul, Nat.reduceSub, Nat.reduceLT, Nat.reduceLeDiff, Int.reduceLT, Int.reduceLE, Int.reduceEq, Int.reduceNeg, Int.reduceAdd, Int.reduceMul, Int.reduceSub, Int.reduceToNat, reduceCtorEq, dec_t, dec_f, ]
  generalize H2.new (.cells [.int .i64 w, .int .i64 h, .sl a3 (Wds w h p).length c3 e3] true) = H3 at *
  generalize H2.next = bp at *
  refine size_ct hq.bm g3.p2 ?_
  have hc1 := g3.cel
  have hc2 := g3.p3.cel
  simp -implicitDefEqProofs -dsimp (disch := omega) only [go_sem, Nat.reduceEqDiff, ↓reduceIte, Nat.reduceAdd, Nat.reduceMul, Nat.reduceSub, Nat.reduceLT, Nat.reduceLeDiff, Int.reduceLT, Int.reduceLE, Int.reduceEq, Int.reduceNeg, Int.reduceAdd, Int.reduceMul, Int.reduceSub, Int.reduceToNat, reduceCtorEq, dec_t, dec_f, rd_m hc1, rd_m hc2]
  refine eqb_ct hq.rz g3 g3.p1.own.arr (hy _ g3.tail.tail.tail.tail) (by rw [Wds_length]; omega) fun H4 g4 _ => ?_
  have hc1 := g4.cel
  have hc2 := g4.p3.cel
  have fin : ∀ b : Bool, b = decide ((w : Int) = w2 ∧ (h : Int) = h2 ∧ Wds w h p = cs) → ∀ H5, Hs H5 (MapA m w h p :: Cel bx [.int .i64 w2, .int .i64 h2, .sl a2 cs.length c2 e2] :: R) → Q (.ret (.bool b)) H5 := fun b hb H5 g5 => by rw [hb]; exact hQ H5 g5.p1.tail
  by_cases d1 : (w : Int) = w2
  · by_cases d2 : (h : Int) = h2
    · generalize hd : decide ((w : Int) = w2 ∧ (h : Int) = h2 ∧ Wds w h p = cs) = bb at fin
      cases bb <;>
      · simp -implicitDefEqProofs -dsimp (disch := omega) only [go_sem, Nat.reduceEqDiff, ↓reduceIte, Nat.reduceAdd, Nat.reduceMul, Nat.reduceSub, Nat.reduceLT, Nat.reduceLeDiff, Int.reduceLT, Int.reduceLE, Int.reduceEq, Int.reduceNeg, Int.reduceAdd, Int.reduceMul, Int.reduceSub, Int.reduceToNat, reduceCtorEq, dec_t, dec_f, rd_s hc1, rd_s hc2]
        refine overw_ct hq g4.p1 (by rw [Wds_length]; omega) fun H5 g5 => ?_
        simp -implicitDefEqProofs -dsimp (disch := omega) only [go_sem, Nat.reduceEqDiff, ↓reduceIte, Nat.reduceAdd, Nat.reduceMul, Nat.reduceSub, Nat.reduceLT, Nat.reduceLeDiff, Int.reduceLT, Int.reduceLE, Int.reduceEq, Int.reduceNeg, Int.reduceAdd, Int.reduceMul, Int.reduceSub, Int.reduceToNat, reduceCtorEq, dec_t, dec_f, ]
        exact fin _ rfl H5 g5.tail
    · have fin := fin _ (decide_eq_false fun e => d2 e.2.1).symm
      rw [decide_eq_false fun e => d2 e.2.1]
      simp -implicitDefEqProofs -dsimp (disch := omega) only [go_sem, Nat.reduceEqDiff, ↓reduceIte, Nat.reduceAdd, Nat.reduceMul, Nat.reduceSub, Nat.reduceLT, Nat.reduceLeDiff, Int.reduceLT, Int.reduceLE, Int.reduceEq, Int.reduceNeg, Int.reduceAdd, Int.reduceMul, Int.reduceSub, Int.reduceToNat, reduceCtorEq, dec_t, dec_f, rd_s hc1, rd_s hc2]
      refine overw_ct hq g4.p1 (by rw [Wds_length]; omega) fun H5 g5 => ?_
      simp -implicitDefEqProofs -dsimp (disch := omega) only [go_sem, Nat.reduceEqDiff, ↓reduceIte, Nat.reduceAdd, Nat.reduceMul, Nat.reduceSub, Nat.reduceLT, Nat.reduceLeDiff, Int.reduceLT, Int.reduceLE, Int.reduceEq, Int.reduceNeg, Int.reduceAdd, Int.reduceMul, Int.reduceSub, Int.reduceToNat, reduceCtorEq, dec_t, dec_f, ]
      exact fin H5 g5.tail
  · have fin := fin _ (decide_eq_false fun e => d1 e.1).symm
    rw [decide_eq_false fun e => d1 e.1]
    simp -implicitDefEqProofs -dsimp (disch := omega) only [go_sem, Nat.reduceEqDiff, ↓reduceIte, Nat.reduceAdd, Nat.reduceMul, Nat.reduceSub, Nat.reduceLT, Nat.reduceLeDiff, Int.reduceLT, Int.reduceLE, Int.reduceEq, Int.reduceNeg, Int.reduceAdd, Int.reduceMul, Int.reduceSub, Int.reduceToNat, reduceCtorEq, dec_t, dec_f, rd_s hc1, rd_s hc2]
    refine overw_ct hq g4.p1 (by rw [Wds_length]; omega) fun H5 g5 => ?_
    simp -implicitDefEqProofs -dsimp (disch := omega) only [go_sem, Nat.reduceEqDiff, ↓reduceIte, Nat.reduceAdd, Nat.reduceMul, Nat.reduceSub, Nat.reduceLT, Nat.reduceLeDiff, Int.reduceLT, Int.reduceLE, Int.reduceEq, Int.reduceNeg, Int.reduceAdd, Int.reduceMul, Int.reduceSub, Int.reduceToNat, reduceCtorEq, dec_t, dec_f, ]
    exact fin H5 g5.tail

def bigN (lens : List Nat) (n : Nat) : Nat := sumN (fun i => 64 * lens.getD i 0 + 64) n
theorem bigN_mono {lens : List Nat} {m n : Nat} (h : m ≤ n) : bigN lens m ≤ bigN lens n := by
  obtain ⟨d, rfl⟩ := Nat.exists_eq_add_of_le h
  unfold bigN; rw [sumN_add]; omega
def SmI (H : Heap) (x : V) (lens : List Nat) (most : Nat) (m : Nat) (fr : Fr) (H' : Heap) : Prop :=
  ∃ i : Nat, m = lens.length - i ∧ i ≤ lens.length ∧ bigN lens i ≤ most ∧ fr = ⟨[(0, x), (1, .int .i64 most), (5, .int .i64 (bigN lens i : Nat)), (6, .int .i64 i)], []⟩ ∧ H = H'
theorem small_ct (hq : HasL2 P) {b c : Nat} {lens : List Nat} {most : Nat} (hr : ∀ i, i < lens.length → ∃ a c e, rd H none b (i * 3 + 2) = some (.sl a (lens.getD i 0) c e)) (hl : ∀ i, i < lens.length → lens.getD i 0 ≤ 140737488355328) (hn : lens.length ≤ 1000000) (hm : most ≤ 1000000000)
    (hQ : Q (.ret (.bool (decide (bigN lens lens.length ≤ most)))) H) : Call P 98 [.sl (some (b, 0)) lens.length c 3, .int .i64 most] H Q := by
  refine call_of hq.kit.h_burinkit_Small rfl ?_
  simp -implicitDefEqProofs -dsimp (disch := omega) only [go_sem, Nat.reduceEqDiff, ↓reduceIte, Nat.reduceAdd, Nat.reduceMul, Nat.reduceSub, Nat.reduceLT, Nat.reduceLeDiff, Int.reduceLT, Int.reduceLE, Int.reduceEq, Int.reduceNeg, Int.reduceAdd, Int.reduceMul, Int.reduceSub, Int.reduceToNat, reduceCtorEq, dec_t, dec_f, ]
  refine loop_inv (SmI H _ lens most) ?_ lens.length _ _ ⟨0, by omega, by omega, Nat.zero_le _, rfl, rfl⟩
  rintro k fr H1 ⟨i, hk, hi, hb, rfl, rfl⟩
  generalize hK : rnd (SmI H (.sl (some (b, 0)) lens.length c 3) lens most) k = K
  by_cases hin : i < lens.length
  · obtain ⟨a1, c1, e1, hrd⟩ := hr i hin
    have hll := hl i hin
    have hs : bigN lens (i + 1) = bigN lens i + (64 * lens.getD i 0 + 64) := rfl
    have e2 : ((bigN lens i : Nat) : Int) + 64 * ((lens.getD i 0 : Nat) : Int) + 64 = ((bigN lens (i + 1) : Nat) : Int) := by omega
    by_cases hbig : bigN lens (i + 1) ≤ most
    · simp -implicitDefEqProofs -dsimp (disch := omega) only [go_sem, Nat.reduceEqDiff, ↓reduceIte, Nat.reduceAdd, Nat.reduceMul, Nat.reduceSub, Nat.reduceLT, Nat.reduceLeDiff, Int.reduceLT, Int.reduceLE, Int.reduceEq, Int.reduceNeg, Int.reduceAdd, Int.reduceMul, Int.reduceSub, Int.reduceToNat, reduceCtorEq, dec_t, dec_f, burinkit_Small_l0, Int.toNat_natCast, hrd, w64, e2, cadd1]
      subst hK
      exact rnd_n (lens.length - (i + 1)) (by omega) ⟨i + 1, rfl, by omega, hbig, rfl, rfl⟩
    · have hno := bigN_mono (lens := lens) (show i + 1 ≤ lens.length by omega)
      rw [decide_eq_false (by omega)] at hQ
      simp -implicitDefEqProofs -dsimp (disch := omega) only [go_sem, Nat.reduceEqDiff, ↓reduceIte, Nat.reduceAdd, Nat.reduceMul, Nat.reduceSub, Nat.reduceLT, Nat.reduceLeDiff, Int.reduceLT, Int.reduceLE, Int.reduceEq, Int.reduceNeg, Int.reduceAdd, Int.reduceMul, Int.reduceSub, Int.reduceToNat, reduceCtorEq, dec_t, dec_f, burinkit_Small_l0, Int.toNat_natCast, hrd, w64, e2]
      subst hK
      simp -implicitDefEqProofs -dsimp (disch := omega) only [go_sem, Nat.reduceEqDiff, ↓reduceIte, Nat.reduceAdd, Nat.reduceMul, Nat.reduceSub, Nat.reduceLT, Nat.reduceLeDiff, Int.reduceLT, Int.reduceLE, Int.reduceEq, Int.reduceNeg, Int.reduceAdd, Int.reduceMul, Int.reduceSub, Int.reduceToNat, reduceCtorEq, dec_t, dec_f, ]
      exact hQ
  · obtain rfl : i = lens.length := by omega
    rw [decide_eq_true hb] at hQ
    simp -implicitDefEqProofs -dsimp (disch := omega) only [go_sem, Nat.reduceEqDiff, ↓reduceIte, Nat.reduceAdd, Nat.reduceMul, Nat.reduceSub, Nat.reduceLT, Nat.reduceLeDiff, Int.reduceLT, Int.reduceLE, Int.reduceEq, Int.reduceNeg, Int.reduceAdd, Int.reduceMul, Int.reduceSub, Int.reduceToNat, reduceCtorEq, dec_t, dec_f, burinkit_Small_l0]
    subst hK
    simp -implicitDefEqProofs -dsimp (disch := omega) only [go_sem, Nat.reduceEqDiff, ↓reduceIte, Nat.reduceAdd, Nat.reduceMul, Nat.reduceSub, Nat.reduceLT, Nat.reduceLeDiff, Int.reduceLT, Int.reduceLE, Int.reduceEq, Int.reduceNeg, Int.reduceAdd, Int.reduceMul, Int.reduceSub, Int.reduceToNat, reduceCtorEq, dec_t, dec_f, ]
    exact hQ
end
end Go.Ab
