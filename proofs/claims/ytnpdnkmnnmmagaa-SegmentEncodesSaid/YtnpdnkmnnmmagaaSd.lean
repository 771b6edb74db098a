/- Segments: numbers and bits of a header are read. Conditions: none. -/
import Derived.Test.YtnpdnkmnnmmagaaSc
import Derived.Test.YtnpdnkmnnmmagaaBt
set_option linter.all false
namespace Go.Ab
/-- What is panicked with. -/
def flt (e : Int) : V := .ifc 0 (.agg [.int .i64 e])
def numR (bs : List Nat) (bound a : Nat) : Except Int (Nat × Nat) :=
  if (rVar bs a).2.1 = 14 then .error 163 else if (rVar bs a).2.1 ≠ 0 then .error 161 else if bound ≤ (rVar bs a).1 then .error 161 else .ok ((rVar bs a).1, (rVar bs a).2.2)
def takR (bs : List Nat) (a : Nat) (k : Int) : Except Int (Nat × Nat) :=
  if (rTake bs a k).2.1 = 14 then .error 163 else if (rTake bs a k).2.1 ≠ 0 then .error 161 else .ok ((rTake bs a k).1, (rTake bs a k).2.2)
def alnR (bs : List Nat) (a : Nat) : Except Int Nat :=
  if (rAlign bs a).1 = 14 then .error 163 else if (rAlign bs a).1 ≠ 0 then .error 161 else .ok (rAlign bs a).2
section
variable {P : Prog} {H : Heap} {R : List As} {Q : Out → Heap → Prop}
theorem wrong_ct (hp : HasSeg P) {b : Bool} (h1 : b = false → Q (.ret (.tup [])) H) (h2 : b = true → Q (.pan (flt 161)) H) : Call P 157 [.bool b] H Q := by
  refine call_of hp.h_segment_wrong rfl ?_
  cases b
  · simp -implicitDefEqProofs -dsimp (disch := omega) only [go_sem, Nat.reduceEqDiff, ↓reduceIte, Nat.reduceAdd, Nat.reduceMul, Nat.reduceSub, Nat.reduceLT, Nat.reduceLeDiff, Int.reduceLT, Int.reduceLE, Int.reduceEq, Int.reduceNeg, Int.reduceAdd, Int.reduceMul, Int.reduceSub, Int.reduceToNat, reduceCtorEq, dec_t, dec_f, ]
    exact h1 rfl
  · simp -implicitDefEqProofs -dsimp (disch := omega) only [go_sem, Nat.reduceEqDiff, ↓reduceIte, Nat.reduceAdd, Nat.reduceMul, Nat.reduceSub, Nat.reduceLT, Nat.reduceLeDiff, Int.reduceLT, Int.reduceLE, Int.reduceEq, Int.reduceNeg, Int.reduceAdd, Int.reduceMul, Int.reduceSub, Int.reduceToNat, reduceCtorEq, dec_t, dec_f, ]
    exact h2 rfl
theorem need_ct (hp : HasSeg P) {e : Int} (h0 : e = 0 → Q (.ret (.tup [])) H) (h1 : e = 14 → Q (.pan (flt 163)) H) (h2 : e ≠ 14 → e ≠ 0 → Q (.pan (flt 161)) H) : Call P 158 [.int .i64 e] H Q := by
  refine call_of hp.h_segment_need rfl ?_
  by_cases e14 : e = 14
  · simp -implicitDefEqProofs -dsimp (disch := omega) only [go_sem, Nat.reduceEqDiff, ↓reduceIte, Nat.reduceAdd, Nat.reduceMul, Nat.reduceSub, Nat.reduceLT, Nat.reduceLeDiff, Int.reduceLT, Int.reduceLE, Int.reduceEq, Int.reduceNeg, Int.reduceAdd, Int.reduceMul, Int.reduceSub, Int.reduceToNat, reduceCtorEq, dec_t, dec_f, ]
    exact h1 e14
  · by_cases e0 : e = 0
    · simp -implicitDefEqProofs -dsimp (disch := omega) only [go_sem, Nat.reduceEqDiff, ↓reduceIte, Nat.reduceAdd, Nat.reduceMul, Nat.reduceSub, Nat.reduceLT, Nat.reduceLeDiff, Int.reduceLT, Int.reduceLE, Int.reduceEq, Int.reduceNeg, Int.reduceAdd, Int.reduceMul, Int.reduceSub, Int.reduceToNat, reduceCtorEq, dec_t, dec_f, ]
      refine wrong_ct hp (fun _ => ?_) fun k => by simp [e0] at k
      simp -implicitDefEqProofs -dsimp (disch := omega) only [go_sem, Nat.reduceEqDiff, ↓reduceIte, Nat.reduceAdd, Nat.reduceMul, Nat.reduceSub, Nat.reduceLT, Nat.reduceLeDiff, Int.reduceLT, Int.reduceLE, Int.reduceEq, Int.reduceNeg, Int.reduceAdd, Int.reduceMul, Int.reduceSub, Int.reduceToNat, reduceCtorEq, dec_t, dec_f, ]
      exact h0 e0
    · simp -implicitDefEqProofs -dsimp (disch := omega) only [go_sem, Nat.reduceEqDiff, ↓reduceIte, Nat.reduceAdd, Nat.reduceMul, Nat.reduceSub, Nat.reduceLT, Nat.reduceLeDiff, Int.reduceLT, Int.reduceLE, Int.reduceEq, Int.reduceNeg, Int.reduceAdd, Int.reduceMul, Int.reduceSub, Int.reduceToNat, reduceCtorEq, dec_t, dec_f, ]
      refine wrong_ct hp (fun k => by simp [e0] at k) fun _ => ?_
      simp -implicitDefEqProofs -dsimp (disch := omega) only [go_sem, Nat.reduceEqDiff, ↓reduceIte, Nat.reduceAdd, Nat.reduceMul, Nat.reduceSub, Nat.reduceLT, Nat.reduceLeDiff, Int.reduceLT, Int.reduceLE, Int.reduceEq, Int.reduceNeg, Int.reduceAdd, Int.reduceMul, Int.reduceSub, Int.reduceToNat, reduceCtorEq, dec_t, dec_f, ]
      exact h2 e14 e0
theorem rd_small {H : Heap} {R : List As} {r a : Nat} {bs : List Nat} (h : Hs H (RdA r bs a :: R)) : ∀ b ∈ bs, b < 256 := by
  obtain ⟨F, v, h1, h2⟩ := h.head
  exact h2.small
theorem rVarF_lt (bs : List Nat) (a0 : Nat) : ∀ f i n a, f + i = 10 → (i ≤ 9 → n < 2 ^ (7 * i)) → n < 18446744073709551616 → (rVarF bs a0 f i n a).1 < 18446744073709551616
  | 0, _, _, _, _, _, _ => by simp [rVarF]
  | f + 1, i, n, a, hf, hn, hl => by
    unfold rVarF
    split
    · exact Nat.zero_lt_succ _
    · split
      · exact Nat.zero_lt_succ _
      · rename_i h1 h2
        have hs := var_sum (n := n) (g := toldN bs a 8) (i := i) (by omega) (hn (by omega)) (fun e => by omega)
        split
        · exact hs.2.1
        · exact rVarF_lt bs a0 f (i + 1) _ _ (by omega) (fun k => hs.2.2 (by omega)) hs.2.1
theorem rVar_lt (bs : List Nat) (a : Nat) : (rVar bs a).1 < 18446744073709551616 := rVarF_lt bs a 10 0 0 a rfl (by simp) (by decide)
theorem number_ct (hp : HasSeg P) (hb : HasBits P) {r a bound : Nat} {bs : List Nat} (hs : Hs H (RdA r bs a :: R)) (hbd : bound ≤ 9223372036854775807)
    (h1 : ∀ n a' H', numR bs bound a = .ok (n, a') → n < bound → Hs H' (RdA r bs a' :: R) → Q (.ret (.int .i64 (n : Nat))) H') (h2 : ∀ e H', numR bs bound a = .error e → Hs H' R → Q (.pan (flt e)) H') :
    Call P 159 [.agg [.ptr (some (r, 0))], .int .i64 (bound : Nat)] H Q := by
  refine call_of hp.h_segment_reader_number rfl ?_
  have g1 := hs.alloc (l := [.ptr (some (r, 0))])
  simp -implicitDefEqProofs -dsimp (disch := omega) only [go_sem, Nat.reduceEqDiff, ↓reduceIte, Nat.reduceAdd, Nat.reduceMul, Nat.reduceSub, Nat.reduceLT, Nat.reduceLeDiff, Int.reduceLT, Int.reduceLE, Int.reduceEq, Int.reduceNeg, Int.reduceAdd, Int.reduceMul, Int.reduceSub, Int.reduceToNat, reduceCtorEq, dec_t, dec_f, ]
  refine rVarA hb g1.p1 fun H1 g2 => ?_
  have hl := rVar_lt bs a
  unfold numR at h1 h2
  generalize rVar bs a = x at *
  obtain ⟨n, e, a'⟩ := x
  dsimp only at h1 h2 hl g2 ⊢
  simp -implicitDefEqProofs -dsimp (disch := omega) only [go_sem, Nat.reduceEqDiff, ↓reduceIte, Nat.reduceAdd, Nat.reduceMul, Nat.reduceSub, Nat.reduceLT, Nat.reduceLeDiff, Int.reduceLT, Int.reduceLE, Int.reduceEq, Int.reduceNeg, Int.reduceAdd, Int.reduceMul, Int.reduceSub, Int.reduceToNat, reduceCtorEq, dec_t, dec_f, ]
  refine need_ct hp (fun k => ?_) (fun k => ?_) (fun k k2 => ?_)
  · subst k
    simp only [if_neg (show ¬ (0 : Int) = 14 by decide), ne_eq, not_true_eq_false, if_false] at h1 h2
    simp -implicitDefEqProofs -dsimp (disch := omega) only [go_sem, Nat.reduceEqDiff, ↓reduceIte, Nat.reduceAdd, Nat.reduceMul, Nat.reduceSub, Nat.reduceLT, Nat.reduceLeDiff, Int.reduceLT, Int.reduceLE, Int.reduceEq, Int.reduceNeg, Int.reduceAdd, Int.reduceMul, Int.reduceSub, Int.reduceToNat, reduceCtorEq, dec_t, dec_f, wu64]
    refine wrong_ct hp (fun k => ?_) (fun k => ?_)
    · have k : ¬ (bound : Int) ≤ n := of_decide_eq_false k
      simp -implicitDefEqProofs -dsimp (disch := omega) only [go_sem, Nat.reduceEqDiff, ↓reduceIte, Nat.reduceAdd, Nat.reduceMul, Nat.reduceSub, Nat.reduceLT, Nat.reduceLeDiff, Int.reduceLT, Int.reduceLE, Int.reduceEq, Int.reduceNeg, Int.reduceAdd, Int.reduceMul, Int.reduceSub, Int.reduceToNat, reduceCtorEq, dec_t, dec_f, w64]
      exact h1 n a' H1 (if_neg (by omega)) (by omega) (Hs.p1 g2).tail
    · have k : (bound : Int) ≤ n := of_decide_eq_true k
      simp -implicitDefEqProofs -dsimp (disch := omega) only [go_sem, Nat.reduceEqDiff, ↓reduceIte, Nat.reduceAdd, Nat.reduceMul, Nat.reduceSub, Nat.reduceLT, Nat.reduceLeDiff, Int.reduceLT, Int.reduceLE, Int.reduceEq, Int.reduceNeg, Int.reduceAdd, Int.reduceMul, Int.reduceSub, Int.reduceToNat, reduceCtorEq, dec_t, dec_f, ]
      exact h2 161 H1 (if_pos (by omega)) g2.tail.tail
  · subst k
    simp -implicitDefEqProofs -dsimp (disch := omega) only [go_sem, Nat.reduceEqDiff, ↓reduceIte, Nat.reduceAdd, Nat.reduceMul, Nat.reduceSub, Nat.reduceLT, Nat.reduceLeDiff, Int.reduceLT, Int.reduceLE, Int.reduceEq, Int.reduceNeg, Int.reduceAdd, Int.reduceMul, Int.reduceSub, Int.reduceToNat, reduceCtorEq, dec_t, dec_f, ]
    exact h2 163 H1 (if_pos rfl) g2.tail.tail
  · simp -implicitDefEqProofs -dsimp (disch := omega) only [go_sem, Nat.reduceEqDiff, ↓reduceIte, Nat.reduceAdd, Nat.reduceMul, Nat.reduceSub, Nat.reduceLT, Nat.reduceLeDiff, Int.reduceLT, Int.reduceLE, Int.reduceEq, Int.reduceNeg, Int.reduceAdd, Int.reduceMul, Int.reduceSub, Int.reduceToNat, reduceCtorEq, dec_t, dec_f, ]
    exact h2 161 H1 (by rw [if_neg k, if_pos k2]) g2.tail.tail
end
end Go.Ab
