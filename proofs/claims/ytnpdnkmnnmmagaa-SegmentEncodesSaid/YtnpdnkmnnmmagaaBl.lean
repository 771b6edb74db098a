/- A number in groups is read: what the reference's Var comes to. Conditions: none. -/
import Derived.Test.YtnpdnkmnnmmagaaBj
set_option linter.all false
namespace Go.Ab

/-- A number in groups: so many rounds, round i, what is read so far, from where on. -/
def rVarF (bs : List Nat) (a0 : Nat) : Nat → Nat → Nat → Nat → Nat × Int × Nat
  | 0, _, _, _ => (0, 16, a0)
  | f + 1, i, n, a => if 8 * bs.length < a + 8 then (0, 14, a0) else if (i = 9 ∧ 1 < toldN bs a 8) ∨ (0 < i ∧ toldN bs a 8 = 0) then (0, 16, a0) else
      if toldN bs a 8 < 128 then (n + toldN bs a 8 % 128 * 2 ^ (7 * i), 0, a + 8) else rVarF bs a0 f (i + 1) (n + toldN bs a 8 % 128 * 2 ^ (7 * i)) (a + 8)
def rVar (bs : List Nat) (a : Nat) : Nat × Int × Nat := rVarF bs a 10 0 0 a

theorem var_sum {n g i : Nat} (hi : i ≤ 9) (hn : n < 2 ^ (7 * i)) (hg : i = 9 → g % 128 ≤ 1) : g % 128 * 2 ^ (7 * i) ≤ 9223372036854775808 ∧ n + g % 128 * 2 ^ (7 * i) < 18446744073709551616 ∧ (i < 9 → n + g % 128 * 2 ^ (7 * i) < 2 ^ (7 * (i + 1))) := by
  have hp : 0 < 2 ^ (7 * i) := Nat.two_pow_pos _
  have hm : g % 128 * 2 ^ (7 * i) ≤ 127 * 2 ^ (7 * i) := Nat.mul_le_mul_right _ (by omega)
  have hs : 2 ^ (7 * (i + 1)) = 128 * 2 ^ (7 * i) := by rw [show 7 * (i + 1) = 7 + 7 * i by omega, Nat.pow_add]
  by_cases h9 : i = 9
  · subst h9
    have := hg rfl
    have hm1 : g % 128 * 2 ^ (7 * 9) ≤ 1 * 2 ^ (7 * 9) := Nat.mul_le_mul_right _ this
    refine ⟨by omega, by omega, by omega⟩
  · have h8 : 2 ^ (7 * i) ≤ 2 ^ (7 * 8) := Nat.pow_le_pow_right (by omega) (by omega)
    refine ⟨by omega, by omega, fun _ => by omega⟩

def RVI (H : Heap) (r : Nat) (v : V) (bs : List Nat) (a0 : Nat) (m : Nat) (fr : Fr) (H' : Heap) : Prop :=
  ∃ i n a ex, m = 10 - i ∧ i ≤ 10 ∧ (i ≤ 9 → n < 2 ^ (7 * i)) ∧ n < 18446744073709551616 ∧ fr = ⟨(0, .ptr (some (r, 0))) :: (4, .int .i64 (a0 : Nat)) :: (5, .int .u64 (n : Nat)) :: (6, .int .i64 (i : Nat)) :: ex, []⟩ ∧ RR H' r v bs a ∧ Same (fun b => b = r) H H' ∧
    rVar bs a0 = rVarF bs a0 (10 - i) i n a

set_option maxRecDepth 4096 in
theorem rrVar_ct {P : Prog} (hp : HasRefBits P) {H : Heap} {r : Nat} {v : V} {bs : List Nat} {a0 : Nat} (h : RR H r v bs a0) {Q : Out → Heap → Prop}
    (hQ : ∀ H', RR H' r v bs (rVar bs a0).2.2 → Same (fun b => b = r) H H' → Q (.ret (.tup [.int .u64 ((rVar bs a0).1 : Nat), .int .i64 (rVar bs a0).2.1])) H') : Call P 24 [.ptr (some (r, 0))] H Q := by
  have := h.room; have := h.max
  refine call_of hp.h_burinref1_Reader_Var rfl ?_
  simp -implicitDefEqProofs -dsimp (disch := omega) only [go_sem, Nat.reduceEqDiff, ↓reduceIte, Nat.reduceAdd, Nat.reduceMul, Nat.reduceSub, Nat.reduceLT, Nat.reduceLeDiff, Int.reduceLT, Int.reduceLE, Int.reduceEq, Int.reduceNeg, Int.reduceAdd, Int.reduceMul, Int.reduceSub, Int.reduceToNat, reduceCtorEq, rd_s h.cell]
  refine loop_inv (RVI H r v bs a0) ?_ 10 _ _ ⟨0, 0, a0, [], rfl, by omega, fun _ => by simp, by omega, rfl, h, Same.refl _ _, rfl⟩
  rintro m fr H1 ⟨i, n, a, ex, hm, hi, hn, hn', rfl, hr, hs, hv⟩
  generalize hK : rnd (RVI H r v bs a0) m = K
  obtain ⟨x, c, e', hsh⟩ := hr.bytes.shape
  simp -implicitDefEqProofs -dsimp (disch := omega) only [go_sem, Nat.reduceEqDiff, ↓reduceIte, Nat.reduceAdd, Nat.reduceMul, Nat.reduceSub, Nat.reduceLT, Nat.reduceLeDiff, Int.reduceLT, Int.reduceLE, Int.reduceEq, Int.reduceNeg, Int.reduceAdd, Int.reduceMul, Int.reduceSub, Int.reduceToNat, reduceCtorEq, burinref1_Reader_Var_l0]
  refine lif_dec (fun h1 => ?_) (fun h1 => ?_)
  · simp -implicitDefEqProofs -dsimp (disch := omega) only [go_sem, Nat.reduceEqDiff, ↓reduceIte, Nat.reduceAdd, Nat.reduceMul, Nat.reduceSub, Nat.reduceLT, Nat.reduceLeDiff, Int.reduceLT, Int.reduceLE, Int.reduceEq, Int.reduceNeg, Int.reduceAdd, Int.reduceMul, Int.reduceSub, Int.reduceToNat, reduceCtorEq, ]
    have := hr.room
    refine rrTake_ct hp hr (fun H2 hr2 hs2 => ?_)
    have hs12 : Same (fun b => b = r) H H2 := hs.trans hs2 fun _ _ h => h
    rw [show 10 - i = 9 - i + 1 by omega, rVarF] at hv
    by_cases h8 : 8 * bs.length < a + 8
    · have et : rTake bs a 8 = (0, 14, a) := by rw [rTake, if_neg (by omega), if_pos (by omega)]
      rw [et] at hr2 ⊢
      rw [if_pos h8] at hv
      obtain ⟨hr3, hs3⟩ := hr2.pass (c := a0) (by omega)
      subst hsh
      simp -implicitDefEqProofs -dsimp (disch := omega) only [go_sem, Nat.reduceEqDiff, ↓reduceIte, Nat.reduceAdd, Nat.reduceMul, Nat.reduceSub, Nat.reduceLT, Nat.reduceLeDiff, Int.reduceLT, Int.reduceLE, Int.reduceEq, Int.reduceNeg, Int.reduceAdd, Int.reduceMul, Int.reduceSub, Int.reduceToNat, reduceCtorEq, wr_s hr2.cell]
      subst hK
      simp -implicitDefEqProofs -dsimp (disch := omega) only [go_sem, Nat.reduceEqDiff, ↓reduceIte, Nat.reduceAdd, Nat.reduceMul, Nat.reduceSub, Nat.reduceLT, Nat.reduceLeDiff, Int.reduceLT, Int.reduceLE, Int.reduceEq, Int.reduceNeg, Int.reduceAdd, Int.reduceMul, Int.reduceSub, Int.reduceToNat, reduceCtorEq, ]
      simp only [hv] at hQ
      exact hQ _ hr3 (hs12.trans hs3 fun _ _ h => h)
    · have et : rTake bs a 8 = (toldN bs a 8, 0, a + 8) := by rw [rTake, if_neg (by omega), if_neg (by omega)]; rfl
      rw [et] at hr2 ⊢
      rw [if_neg h8] at hv
      have hg := toldN_lt bs a 8
      generalize toldN bs a 8 = g at *
      by_cases hbad : (i = 9 ∧ 1 < g) ∨ (0 < i ∧ g = 0)
      · rw [if_pos hbad] at hv
        simp only [hv] at hQ
        obtain ⟨hr3, hs3⟩ := hr2.pass (c := a0) (by omega)
        subst hsh
        have cs : ((((i : Nat) : Int) = 9) = True ∧ ((1 < ((g : Nat) : Int)) = True)) ∨ ((((i : Nat) : Int) = 9) = True ∧ ((1 < ((g : Nat) : Int)) = False) ∧ ((0 < ((i : Nat) : Int)) = True) ∧ ((((g : Nat) : Int) = 0) = True)) ∨ ((((i : Nat) : Int) = 9) = False ∧ ((0 < ((i : Nat) : Int)) = True) ∧ ((((g : Nat) : Int) = 0) = True)) := by
          simp only [eq_iff_iff, iff_true, iff_false]; omega
        rcases cs with ⟨f1, f2⟩ | ⟨f1, f2, f3, f4⟩ | ⟨f1, f2, f3⟩
        · simp -implicitDefEqProofs -dsimp (disch := omega) only [go_sem, Nat.reduceEqDiff, ↓reduceIte, Nat.reduceAdd, Nat.reduceMul, Nat.reduceSub, Nat.reduceLT, Nat.reduceLeDiff, Int.reduceLT, Int.reduceLE, Int.reduceEq, Int.reduceNeg, Int.reduceAdd, Int.reduceMul, Int.reduceSub, Int.reduceToNat, reduceCtorEq, f1, f2, wr_s hr2.cell]
          subst hK
          simp -implicitDefEqProofs -dsimp (disch := omega) only [go_sem, Nat.reduceEqDiff, ↓reduceIte, Nat.reduceAdd, Nat.reduceMul, Nat.reduceSub, Nat.reduceLT, Nat.reduceLeDiff, Int.reduceLT, Int.reduceLE, Int.reduceEq, Int.reduceNeg, Int.reduceAdd, Int.reduceMul, Int.reduceSub, Int.reduceToNat, reduceCtorEq, ]
          exact hQ _ hr3 (hs12.trans hs3 fun _ _ h => h)
        · simp -implicitDefEqProofs -dsimp (disch := omega) only [go_sem, Nat.reduceEqDiff, ↓reduceIte, Nat.reduceAdd, Nat.reduceMul, Nat.reduceSub, Nat.reduceLT, Nat.reduceLeDiff, Int.reduceLT, Int.reduceLE, Int.reduceEq, Int.reduceNeg, Int.reduceAdd, Int.reduceMul, Int.reduceSub, Int.reduceToNat, reduceCtorEq, f1, f2, f3, f4, wr_s hr2.cell]
          subst hK
          simp -implicitDefEqProofs -dsimp (disch := omega) only [go_sem, Nat.reduceEqDiff, ↓reduceIte, Nat.reduceAdd, Nat.reduceMul, Nat.reduceSub, Nat.reduceLT, Nat.reduceLeDiff, Int.reduceLT, Int.reduceLE, Int.reduceEq, Int.reduceNeg, Int.reduceAdd, Int.reduceMul, Int.reduceSub, Int.reduceToNat, reduceCtorEq, ]
          exact hQ _ hr3 (hs12.trans hs3 fun _ _ h => h)
        · simp -implicitDefEqProofs -dsimp (disch := omega) only [go_sem, Nat.reduceEqDiff, ↓reduceIte, Nat.reduceAdd, Nat.reduceMul, Nat.reduceSub, Nat.reduceLT, Nat.reduceLeDiff, Int.reduceLT, Int.reduceLE, Int.reduceEq, Int.reduceNeg, Int.reduceAdd, Int.reduceMul, Int.reduceSub, Int.reduceToNat, reduceCtorEq, f1, f2, f3, wr_s hr2.cell]
          subst hK
          simp -implicitDefEqProofs -dsimp (disch := omega) only [go_sem, Nat.reduceEqDiff, ↓reduceIte, Nat.reduceAdd, Nat.reduceMul, Nat.reduceSub, Nat.reduceLT, Nat.reduceLeDiff, Int.reduceLT, Int.reduceLE, Int.reduceEq, Int.reduceNeg, Int.reduceAdd, Int.reduceMul, Int.reduceSub, Int.reduceToNat, reduceCtorEq, ]
          exact hQ _ hr3 (hs12.trans hs3 fun _ _ h => h)
      · rw [if_neg hbad] at hv
        have cs : ((((i : Nat) : Int) = 9) = True ∧ ((1 < ((g : Nat) : Int)) = False) ∧ ((0 < ((i : Nat) : Int)) = True) ∧ ((((g : Nat) : Int) = 0) = False)) ∨ ((((i : Nat) : Int) = 9) = False ∧ ((0 < ((i : Nat) : Int)) = True) ∧ ((((g : Nat) : Int) = 0) = False)) ∨ ((((i : Nat) : Int) = 9) = False ∧ ((0 < ((i : Nat) : Int)) = False)) := by
          simp only [eq_iff_iff, iff_true, iff_false]; omega
        have h9 : i ≤ 9 := by omega
        have hvs := var_sum (g := g) h9 (hn h9) (by omega)
        have v1 := hvs.1
        have v2 := hvs.2.1
        have v4 : g % 128 * 2 ^ (7 * i) ≤ 18446744073709551615 := by omega
        clear hvs
        rcases cs with ⟨f1, f2, f3, f4⟩ | ⟨f1, f2, f3⟩ | ⟨f1, f2⟩
        · simp -implicitDefEqProofs -dsimp (disch := omega) only [go_sem, Nat.reduceEqDiff, ↓reduceIte, Nat.reduceAdd, Nat.reduceMul, Nat.reduceSub, Nat.reduceLT, Nat.reduceLeDiff, Int.reduceLT, Int.reduceLE, Int.reduceEq, Int.reduceNeg, Int.reduceAdd, Int.reduceMul, Int.reduceSub, Int.reduceToNat, reduceCtorEq, f1, f2, f3, f4, tmodN, cmod128, cmul7, w64, wu64, shl64, cadd]
          refine lif_dec (fun h5 => ?_) (fun h5 => ?_)
          · simp -implicitDefEqProofs -dsimp (disch := omega) only [go_sem, Nat.reduceEqDiff, ↓reduceIte, Nat.reduceAdd, Nat.reduceMul, Nat.reduceSub, Nat.reduceLT, Nat.reduceLeDiff, Int.reduceLT, Int.reduceLE, Int.reduceEq, Int.reduceNeg, Int.reduceAdd, Int.reduceMul, Int.reduceSub, Int.reduceToNat, reduceCtorEq, ]
            subst hK
            simp -implicitDefEqProofs -dsimp (disch := omega) only [go_sem, Nat.reduceEqDiff, ↓reduceIte, Nat.reduceAdd, Nat.reduceMul, Nat.reduceSub, Nat.reduceLT, Nat.reduceLeDiff, Int.reduceLT, Int.reduceLE, Int.reduceEq, Int.reduceNeg, Int.reduceAdd, Int.reduceMul, Int.reduceSub, Int.reduceToNat, reduceCtorEq, ]
            rw [if_pos (by omega)] at hv
            simp only [hv] at hQ
            exact hQ _ hr2 hs12
          · rw [if_neg (by omega)] at hv
            simp -implicitDefEqProofs -dsimp (disch := omega) only [go_sem, Nat.reduceEqDiff, ↓reduceIte, Nat.reduceAdd, Nat.reduceMul, Nat.reduceSub, Nat.reduceLT, Nat.reduceLeDiff, Int.reduceLT, Int.reduceLE, Int.reduceEq, Int.reduceNeg, Int.reduceAdd, Int.reduceMul, Int.reduceSub, Int.reduceToNat, reduceCtorEq, w64, cadd1]
            subst hK
            refine rnd_n (10 - (i + 1)) (by omega) ⟨i + 1, n + g % 128 * 2 ^ (7 * i), a + 8, _, rfl, by omega, fun h => (var_sum (g := g) h9 (hn h9) (by omega)).2.2 (by omega), by omega, rfl, hr2, hs12, ?_⟩
            rw [hv, show 10 - (i + 1) = 9 - i by omega]
        · simp -implicitDefEqProofs -dsimp (disch := omega) only [go_sem, Nat.reduceEqDiff, ↓reduceIte, Nat.reduceAdd, Nat.reduceMul, Nat.reduceSub, Nat.reduceLT, Nat.reduceLeDiff, Int.reduceLT, Int.reduceLE, Int.reduceEq, Int.reduceNeg, Int.reduceAdd, Int.reduceMul, Int.reduceSub, Int.reduceToNat, reduceCtorEq, f1, f2, f3, tmodN, cmod128, cmul7, w64, wu64, shl64, cadd]
          refine lif_dec (fun h5 => ?_) (fun h5 => ?_)
          · simp -implicitDefEqProofs -dsimp (disch := omega) only [go_sem, Nat.reduceEqDiff, ↓reduceIte, Nat.reduceAdd, Nat.reduceMul, Nat.reduceSub, Nat.reduceLT, Nat.reduceLeDiff, Int.reduceLT, Int.reduceLE, Int.reduceEq, Int.reduceNeg, Int.reduceAdd, Int.reduceMul, Int.reduceSub, Int.reduceToNat, reduceCtorEq, ]
            subst hK
            simp -implicitDefEqProofs -dsimp (disch := omega) only [go_sem, Nat.reduceEqDiff, ↓reduceIte, Nat.reduceAdd, Nat.reduceMul, Nat.reduceSub, Nat.reduceLT, Nat.reduceLeDiff, Int.reduceLT, Int.reduceLE, Int.reduceEq, Int.reduceNeg, Int.reduceAdd, Int.reduceMul, Int.reduceSub, Int.reduceToNat, reduceCtorEq, ]
            rw [if_pos (by omega)] at hv
            simp only [hv] at hQ
            exact hQ _ hr2 hs12
          · rw [if_neg (by omega)] at hv
            simp -implicitDefEqProofs -dsimp (disch := omega) only [go_sem, Nat.reduceEqDiff, ↓reduceIte, Nat.reduceAdd, Nat.reduceMul, Nat.reduceSub, Nat.reduceLT, Nat.reduceLeDiff, Int.reduceLT, Int.reduceLE, Int.reduceEq, Int.reduceNeg, Int.reduceAdd, Int.reduceMul, Int.reduceSub, Int.reduceToNat, reduceCtorEq, w64, cadd1]
            subst hK
            refine rnd_n (10 - (i + 1)) (by omega) ⟨i + 1, n + g % 128 * 2 ^ (7 * i), a + 8, _, rfl, by omega, fun h => (var_sum (g := g) h9 (hn h9) (by omega)).2.2 (by omega), by omega, rfl, hr2, hs12, ?_⟩
            rw [hv, show 10 - (i + 1) = 9 - i by omega]
        · simp -implicitDefEqProofs -dsimp (disch := omega) only [go_sem, Nat.reduceEqDiff, ↓reduceIte, Nat.reduceAdd, Nat.reduceMul, Nat.reduceSub, Nat.reduceLT, Nat.reduceLeDiff, Int.reduceLT, Int.reduceLE, Int.reduceEq, Int.reduceNeg, Int.reduceAdd, Int.reduceMul, Int.reduceSub, Int.reduceToNat, reduceCtorEq, f1, f2, tmodN, cmod128, cmul7, w64, wu64, shl64, cadd]
          refine lif_dec (fun h5 => ?_) (fun h5 => ?_)
          · simp -implicitDefEqProofs -dsimp (disch := omega) only [go_sem, Nat.reduceEqDiff, ↓reduceIte, Nat.reduceAdd, Nat.reduceMul, Nat.reduceSub, Nat.reduceLT, Nat.reduceLeDiff, Int.reduceLT, Int.reduceLE, Int.reduceEq, Int.reduceNeg, Int.reduceAdd, Int.reduceMul, Int.reduceSub, Int.reduceToNat, reduceCtorEq, ]
            subst hK
            simp -implicitDefEqProofs -dsimp (disch := omega) only [go_sem, Nat.reduceEqDiff, ↓reduceIte, Nat.reduceAdd, Nat.reduceMul, Nat.reduceSub, Nat.reduceLT, Nat.reduceLeDiff, Int.reduceLT, Int.reduceLE, Int.reduceEq, Int.reduceNeg, Int.reduceAdd, Int.reduceMul, Int.reduceSub, Int.reduceToNat, reduceCtorEq, ]
            rw [if_pos (by omega)] at hv
            simp only [hv] at hQ
            exact hQ _ hr2 hs12
          · rw [if_neg (by omega)] at hv
            simp -implicitDefEqProofs -dsimp (disch := omega) only [go_sem, Nat.reduceEqDiff, ↓reduceIte, Nat.reduceAdd, Nat.reduceMul, Nat.reduceSub, Nat.reduceLT, Nat.reduceLeDiff, Int.reduceLT, Int.reduceLE, Int.reduceEq, Int.reduceNeg, Int.reduceAdd, Int.reduceMul, Int.reduceSub, Int.reduceToNat, reduceCtorEq, w64, cadd1]
            subst hK
            refine rnd_n (10 - (i + 1)) (by omega) ⟨i + 1, n + g % 128 * 2 ^ (7 * i), a + 8, _, rfl, by omega, fun h => (var_sum (g := g) h9 (hn h9) (by omega)).2.2 (by omega), by omega, rfl, hr2, hs12, ?_⟩
            rw [hv, show 10 - (i + 1) = 9 - i by omega]
  · obtain rfl : i = 10 := by omega
    subst hK
    obtain ⟨hr3, hs3⟩ := hr.pass (c := a0) (by omega)
    subst hsh
    simp -implicitDefEqProofs -dsimp (disch := omega) only [go_sem, Nat.reduceEqDiff, ↓reduceIte, Nat.reduceAdd, Nat.reduceMul, Nat.reduceSub, Nat.reduceLT, Nat.reduceLeDiff, Int.reduceLT, Int.reduceLE, Int.reduceEq, Int.reduceNeg, Int.reduceAdd, Int.reduceMul, Int.reduceSub, Int.reduceToNat, reduceCtorEq, wr_s hr.cell]
    rw [show 10 - 10 = 0 from rfl, rVarF] at hv
    simp only [hv] at hQ
    exact hQ _ hr3 (hs.trans hs3 fun _ _ h => h)
end Go.Ab
