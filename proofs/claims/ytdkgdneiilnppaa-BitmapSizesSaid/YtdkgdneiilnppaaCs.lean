/- The statements' own helpers: wakes. Conditions: none. -/
import Derived.Test.YtdkgdneiilnppaaCr
import Derived.Test.YtdkgdneiilnppaaPLaw2
import Derived.Test.YtdkgdneiilnppaaPRef2
import Derived.Test.YtdkgdneiilnppaaPKit2
import Derived.Test.YtdkgdneiilnppaaBk
set_option linter.all false
namespace Go.Ab

structure HasL2 (P : Prog) : Prop where
  bm : HasBm P
  rz : HasRz P
  law : HasLaw2 P
  ref : HasRef2 P
  kit : HasKit2 P
  within : P 29 = some burinkit_Within
instance (n : Int) : Decidable (i64r n) := by unfold i64r; infer_instance
section
variable {P : Prog} {H : Heap} {R : List As} {Q : Out → Heap → Prop}

theorem wakes_ct (hq : HasL2 P) (hs : Hs H R) (hQ : ∀ H', Q (.ret (.bool true)) H') : Call P 99 [] H Q := by
  have hp := hq.bm
  have hz := hq.rz
  refine call_of hq.law.h_burinlaw2_wakes rfl ?_
  simp -implicitDefEqProofs -dsimp (disch := omega) only [go_sem, Nat.reduceEqDiff, ↓reduceIte, Nat.reduceAdd, Nat.reduceMul, Nat.reduceSub, Nat.reduceLT, Nat.reduceLeDiff, Int.reduceLT, Int.reduceLE, Int.reduceEq, Int.reduceNeg, Int.reduceAdd, Int.reduceMul, Int.reduceSub, Int.reduceToNat, reduceCtorEq, dec_t, dec_f, ]
  refine new_ct hp hs (by omega) (by omega) (fun k => absurd (show sizeOk 4 1 by decide) k) fun _ m H1 h1 _ => ?_
  simp -implicitDefEqProofs -dsimp (disch := omega) only [go_sem, Nat.reduceEqDiff, ↓reduceIte, Nat.reduceAdd, Nat.reduceMul, Nat.reduceSub, Nat.reduceLT, Nat.reduceLeDiff, Int.reduceLT, Int.reduceLE, Int.reduceEq, Int.reduceNeg, Int.reduceAdd, Int.reduceMul, Int.reduceSub, Int.reduceToNat, reduceCtorEq, dec_t, dec_f, ]
  refine set_ct hp h1 fun H2 h2 => ?_
  rw [show setR (Int.toNat 4) (Int.toNat 1) 0 0 1 = 0 by decide]
  simp -implicitDefEqProofs -dsimp (disch := omega) only [go_sem, Nat.reduceEqDiff, ↓reduceIte, Nat.reduceAdd, Nat.reduceMul, Nat.reduceSub, Nat.reduceLT, Nat.reduceLeDiff, Int.reduceLT, Int.reduceLE, Int.reduceEq, Int.reduceNeg, Int.reduceAdd, Int.reduceMul, Int.reduceSub, Int.reduceToNat, reduceCtorEq, dec_t, dec_f, ]
  refine set_ct hp h2 fun H3 h3 => ?_
  rw [show setR (Int.toNat 4) (Int.toNat 1) 1 0 1 = 0 by decide]
  simp -implicitDefEqProofs -dsimp (disch := omega) only [go_sem, Nat.reduceEqDiff, ↓reduceIte, Nat.reduceAdd, Nat.reduceMul, Nat.reduceSub, Nat.reduceLT, Nat.reduceLeDiff, Int.reduceLT, Int.reduceLE, Int.reduceEq, Int.reduceNeg, Int.reduceAdd, Int.reduceMul, Int.reduceSub, Int.reduceToNat, reduceCtorEq, dec_t, dec_f, ]
  refine blit_self hp h3 (by decide) (by decide) (by decide) (by decide) (by decide) (by decide) (by decide) fun H4 h4 => ?_
  rw [show blitR 3 1 4 = 0 by decide] at h4 ⊢
  simp -implicitDefEqProofs -dsimp (disch := omega) only [go_sem, Nat.reduceEqDiff, ↓reduceIte, Nat.reduceAdd, Nat.reduceMul, Nat.reduceSub, Nat.reduceLT, Nat.reduceLeDiff, Int.reduceLT, Int.reduceLE, Int.reduceEq, Int.reduceNeg, Int.reduceAdd, Int.reduceMul, Int.reduceSub, Int.reduceToNat, reduceCtorEq, dec_t, dec_f, ]
  have h5 := h4.mapc (q := fun i _ => decide (i < 3)) fun x y hx hy => by
    obtain rfl : y = 0 := by have : y < 1 := hy; omega
    rcases (show x = 0 ∨ x = 1 ∨ x = 2 ∨ x = 3 by have : x < 4 := hx; omega) with rfl | rfl | rfl | rfl <;> rfl
  refine count_ct hp h5 ?_
  rw [show cnt2 (Int.toNat 4) (fun i _ => decide (i < 3)) (Int.toNat 1) = 3 by decide]
  simp -implicitDefEqProofs -dsimp (disch := omega) only [go_sem, Nat.reduceEqDiff, ↓reduceIte, Nat.reduceAdd, Nat.reduceMul, Nat.reduceSub, Nat.reduceLT, Nat.reduceLeDiff, Int.reduceLT, Int.reduceLE, Int.reduceEq, Int.reduceNeg, Int.reduceAdd, Int.reduceMul, Int.reduceSub, Int.reduceToNat, reduceCtorEq, dec_t, dec_f, ]
  refine get_ct hp h5 ?_
  rw [show getV (Int.toNat 4) (Int.toNat 1) (fun i _ => decide (i < 3)) 2 0 = 1 by decide]
  simp -implicitDefEqProofs -dsimp (disch := omega) only [go_sem, Nat.reduceEqDiff, ↓reduceIte, Nat.reduceAdd, Nat.reduceMul, Nat.reduceSub, Nat.reduceLT, Nat.reduceLeDiff, Int.reduceLT, Int.reduceLE, Int.reduceEq, Int.reduceNeg, Int.reduceAdd, Int.reduceMul, Int.reduceSub, Int.reduceToNat, reduceCtorEq, dec_t, dec_f, ]
  refine get_ct hp h5 ?_
  rw [show getV (Int.toNat 4) (Int.toNat 1) (fun i _ => decide (i < 3)) 3 0 = 0 by decide]
  simp -implicitDefEqProofs -dsimp (disch := omega) only [go_sem, Nat.reduceEqDiff, ↓reduceIte, Nat.reduceAdd, Nat.reduceMul, Nat.reduceSub, Nat.reduceLT, Nat.reduceLeDiff, Int.reduceLT, Int.reduceLE, Int.reduceEq, Int.reduceNeg, Int.reduceAdd, Int.reduceMul, Int.reduceSub, Int.reduceToNat, reduceCtorEq, dec_t, dec_f, ]
  refine plain_ct hp h5 fun v H6 h6 _ => ?_
  have g7 := h6.alloc (l := u64s [16140901064495857664])
  have ha := h6.own.arr.same (Same.new (fun _ => False) H6 (.cells (u64s [16140901064495857664]) true)) fun _ _ h => h
  have hb : Arr (H6.new (.cells (u64s [16140901064495857664]) true)) (.sl (some (H6.next, 0)) 1 1 1) 1 [16140901064495857664].length (u64s [16140901064495857664]) := Or.inr ⟨H6.next, 0, 1, _, true, rfl, by simp [get_new]; rfl, by simp [u64s], by simp [u64s], Nat.le_refl _, by simp [next_new]⟩
  simp -implicitDefEqProofs -dsimp (disch := omega) only [go_sem, Nat.reduceEqDiff, ↓reduceIte, Nat.reduceAdd, Nat.reduceMul, Nat.reduceSub, Nat.reduceLT, Nat.reduceLeDiff, Int.reduceLT, Int.reduceLE, Int.reduceEq, Int.reduceNeg, Int.reduceAdd, Int.reduceMul, Int.reduceSub, Int.reduceToNat, reduceCtorEq, dec_t, dec_f, ]
  refine eqb_ct hz g7 ha hb (by simp [Wds_length]; decide) fun H8 h8 _ => ?_
  rw [show decide (((4 : Nat) : Int) = 4 ∧ ((1 : Nat) : Int) = 1 ∧ Wds (Int.toNat 4) (Int.toNat 1) (fun i _ => decide (i < 3)) = [16140901064495857664]) = true by decide +kernel]
  simp -implicitDefEqProofs -dsimp (disch := omega) only [go_sem, Nat.reduceEqDiff, ↓reduceIte, Nat.reduceAdd, Nat.reduceMul, Nat.reduceSub, Nat.reduceLT, Nat.reduceLeDiff, Int.reduceLT, Int.reduceLE, Int.reduceEq, Int.reduceNeg, Int.reduceAdd, Int.reduceMul, Int.reduceSub, Int.reduceToNat, reduceCtorEq, dec_t, dec_f, ]
  exact hQ H8
end
end Go.Ab
