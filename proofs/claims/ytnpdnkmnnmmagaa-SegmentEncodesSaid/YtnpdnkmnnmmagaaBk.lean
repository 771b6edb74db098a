/- What the shared functions for bytes come to. Conditions: none. -/
import Derived.Test.YtnpdnkmnnmmagaaBe
import Derived.Test.YtnpdnkmnnmmagaaPKit
import Derived.Test.YtnpdnkmnnmmagaaBkw
set_option linter.all false
namespace Go.Ab




def EqI (H : Heap) (x y : V) (bs cs : List Nat) (m : Nat) (fr : Fr) (H' : Heap) : Prop :=
  ∃ i : Nat, m = bs.length - i ∧ i ≤ bs.length ∧ fr = ⟨[(0, x), (1, y), (5, .int .i64 i)], []⟩ ∧ H = H' ∧ bs.take i = cs.take i
theorem eq_ct {P : Prog} (hp : P 26 = some burinref0_Eq) {H : Heap} {x y : V} {bs cs : List Nat} (hx : Arr H x 1 bs.length (u8s bs)) (hy : Arr H y 1 cs.length (u8s cs)) (hl : bs.length ≤ 281474976710656) {Q : Out → Heap → Prop}
    (hQ : Q (.ret (.bool (decide (bs = cs)))) H) : Call P 26 [x, y] H Q := by
  obtain ⟨a1, c1, e1, rfl⟩ := hx.shape
  obtain ⟨a2, c2, e2, rfl⟩ := hy.shape
  refine call_of hp rfl ?_
  simp -implicitDefEqProofs -dsimp (disch := omega) only [go_sem, Nat.reduceEqDiff, ↓reduceIte, Nat.reduceAdd, Nat.reduceMul, Nat.reduceSub, Nat.reduceLT, Nat.reduceLeDiff, Int.reduceLT, Int.reduceLE, Int.reduceEq, Int.reduceNeg, Int.reduceAdd, Int.reduceMul, Int.reduceSub, Int.reduceToNat, reduceCtorEq, ]
  refine lif_dec (fun h1 => ?_) (fun h1 => ?_)
  · simp -implicitDefEqProofs -dsimp (disch := omega) only [go_sem, Nat.reduceEqDiff, ↓reduceIte, Nat.reduceAdd, Nat.reduceMul, Nat.reduceSub, Nat.reduceLT, Nat.reduceLeDiff, Int.reduceLT, Int.reduceLE, Int.reduceEq, Int.reduceNeg, Int.reduceAdd, Int.reduceMul, Int.reduceSub, Int.reduceToNat, reduceCtorEq, ]
    rw [show decide (bs = cs) = false from decide_eq_false fun e => h1 (by rw [e])] at hQ
    exact hQ
  · have hlen : bs.length = cs.length := by omega
    simp -implicitDefEqProofs -dsimp (disch := omega) only [go_sem, Nat.reduceEqDiff, ↓reduceIte, Nat.reduceAdd, Nat.reduceMul, Nat.reduceSub, Nat.reduceLT, Nat.reduceLeDiff, Int.reduceLT, Int.reduceLE, Int.reduceEq, Int.reduceNeg, Int.reduceAdd, Int.reduceMul, Int.reduceSub, Int.reduceToNat, reduceCtorEq, ]
    refine loop_inv (EqI H _ _ bs cs) ?_ bs.length _ _ ⟨0, by omega, by omega, rfl, rfl, by simp⟩
    rintro m fr H1 ⟨i, hm, hi, rfl, rfl, ht⟩
    generalize hK : rnd (EqI H _ _ bs cs) m = K
    simp -implicitDefEqProofs -dsimp (disch := omega) only [go_sem, Nat.reduceEqDiff, ↓reduceIte, Nat.reduceAdd, Nat.reduceMul, Nat.reduceSub, Nat.reduceLT, Nat.reduceLeDiff, Int.reduceLT, Int.reduceLE, Int.reduceEq, Int.reduceNeg, Int.reduceAdd, Int.reduceMul, Int.reduceSub, Int.reduceToNat, reduceCtorEq, burinref0_Eq_l0]
    refine lif_dec (fun h2 => ?_) (fun h2 => ?_)
    · have hib : i < bs.length := by omega
      have hic : i < cs.length := by omega
      obtain ⟨b3, o3, c3, hv3, hr3⟩ := arr_byte hx hib
      obtain ⟨b4, o4, c4, hv4, hr4⟩ := arr_byte hy hic
      cases hv3; cases hv4
      have hlen' := hlen
      simp -implicitDefEqProofs -dsimp (disch := omega) only [go_sem, Nat.reduceEqDiff, ↓reduceIte, Nat.reduceAdd, Nat.reduceMul, Nat.reduceSub, Nat.reduceLT, Nat.reduceLeDiff, Int.reduceLT, Int.reduceLE, Int.reduceEq, Int.reduceNeg, Int.reduceAdd, Int.reduceMul, Int.reduceSub, Int.reduceToNat, reduceCtorEq, Int.toNat_natCast, Nat.mul_one, hr3, hr4]
      refine lif_dec (fun h3 => ?_) (fun h3 => ?_)
      · simp -implicitDefEqProofs -dsimp (disch := omega) only [go_sem, Nat.reduceEqDiff, ↓reduceIte, Nat.reduceAdd, Nat.reduceMul, Nat.reduceSub, Nat.reduceLT, Nat.reduceLeDiff, Int.reduceLT, Int.reduceLE, Int.reduceEq, Int.reduceNeg, Int.reduceAdd, Int.reduceMul, Int.reduceSub, Int.reduceToNat, reduceCtorEq, ]
        subst hK
        simp -implicitDefEqProofs -dsimp (disch := omega) only [go_sem, Nat.reduceEqDiff, ↓reduceIte, Nat.reduceAdd, Nat.reduceMul, Nat.reduceSub, Nat.reduceLT, Nat.reduceLeDiff, Int.reduceLT, Int.reduceLE, Int.reduceEq, Int.reduceNeg, Int.reduceAdd, Int.reduceMul, Int.reduceSub, Int.reduceToNat, reduceCtorEq, ]
        rw [show decide (bs = cs) = false from decide_eq_false fun e => h3 (by subst e; rfl)] at hQ
        exact hQ
      · simp -implicitDefEqProofs -dsimp (disch := omega) only [go_sem, Nat.reduceEqDiff, ↓reduceIte, Nat.reduceAdd, Nat.reduceMul, Nat.reduceSub, Nat.reduceLT, Nat.reduceLeDiff, Int.reduceLT, Int.reduceLE, Int.reduceEq, Int.reduceNeg, Int.reduceAdd, Int.reduceMul, Int.reduceSub, Int.reduceToNat, reduceCtorEq, w64, cadd1]
        subst hK
        refine rnd_n (bs.length - (i + 1)) (by omega) ⟨i + 1, rfl, by omega, rfl, rfl, ?_⟩
        rw [List.take_succ_eq_append_getElem hib, List.take_succ_eq_append_getElem hic, ht]
        congr 2; omega
    · obtain rfl : i = bs.length := by omega
      subst hK
      simp -implicitDefEqProofs -dsimp (disch := omega) only [go_sem, Nat.reduceEqDiff, ↓reduceIte, Nat.reduceAdd, Nat.reduceMul, Nat.reduceSub, Nat.reduceLT, Nat.reduceLeDiff, Int.reduceLT, Int.reduceLE, Int.reduceEq, Int.reduceNeg, Int.reduceAdd, Int.reduceMul, Int.reduceSub, Int.reduceToNat, reduceCtorEq, ]
      have e : bs = cs := by rw [List.take_length, hlen, List.take_length] at ht; exact ht
      rw [show decide (bs = cs) = true from decide_eq_true e] at hQ
      exact hQ

theorem copy_ct {P : Prog} (hp : P 27 = some burinref0_Copy) {H : Heap} {x : V} {bs : List Nat} (hx : Arr H x 1 bs.length (u8s bs)) (hl : bs.length ≤ 281474976710656) {Q : Out → Heap → Prop}
    (hQ : ∀ v H', Bytes H' v bs → Same (fun _ => False) H H' → (∀ b, sb v b → H.next ≤ b) → Q (.ret v) H') : Call P 27 [x] H Q := by
  refine call_of hp rfl ?_
  obtain ⟨v', H', h1, h2, h3, h4⟩ := app_nil (H := H) (e := 1) (eb := 1) (firsts_arr hx) (by simp [u8s]) (u8s_one bs) (by omega)
  simp -implicitDefEqProofs -dsimp (disch := omega) only [go_sem, Nat.reduceEqDiff, ↓reduceIte, Nat.reduceAdd, Nat.reduceMul, Nat.reduceSub, Nat.reduceLT, Nat.reduceLeDiff, Int.reduceLT, Int.reduceLE, Int.reduceEq, Int.reduceNeg, Int.reduceAdd, Int.reduceMul, Int.reduceSub, Int.reduceToNat, reduceCtorEq, h1]
  exact hQ v' H' h2 h3 h4

def OverI (H : Heap) (x : V) (n : Nat) (m : Nat) (fr : Fr) (H' : Heap) : Prop :=
  ∃ i bs, m = n - i ∧ i ≤ n ∧ bs.length = n ∧ fr = ⟨[(0, x), (2, .int .i64 (i : Nat))], []⟩ ∧ Bytes H' x bs ∧ Same (sb x) H H'
theorem over_ct {P : Prog} (hp : P 28 = some burinkit_Over) {H : Heap} {x : V} {bs : List Nat} (hx : Bytes H x bs) (hl : bs.length ≤ 1099511627776) {Q : Out → Heap → Prop}
    (hQ : ∀ H', Same (sb x) H H' → Q (.ret (.tup [])) H') : Call P 28 [x] H Q := by
  obtain ⟨a1, c1, e1, hv⟩ := hx.arr.shape
  refine call_of hp rfl ?_
  simp -implicitDefEqProofs -dsimp (disch := omega) only [go_sem, Nat.reduceEqDiff, ↓reduceIte, Nat.reduceAdd, Nat.reduceMul, Nat.reduceSub, Nat.reduceLT, Nat.reduceLeDiff, Int.reduceLT, Int.reduceLE, Int.reduceEq, Int.reduceNeg, Int.reduceAdd, Int.reduceMul, Int.reduceSub, Int.reduceToNat, reduceCtorEq, ]
  refine loop_inv (OverI H x bs.length) ?_ bs.length _ _ ⟨0, bs, by omega, by omega, rfl, rfl, hx, Same.refl _ _⟩
  rintro m fr H1 ⟨i, cs, hm, hi, hlc, rfl, hb, hs⟩
  generalize hK : rnd (OverI H x bs.length) m = K
  subst hv
  simp -implicitDefEqProofs -dsimp (disch := omega) only [go_sem, Nat.reduceEqDiff, ↓reduceIte, Nat.reduceAdd, Nat.reduceMul, Nat.reduceSub, Nat.reduceLT, Nat.reduceLeDiff, Int.reduceLT, Int.reduceLE, Int.reduceEq, Int.reduceNeg, Int.reduceAdd, Int.reduceMul, Int.reduceSub, Int.reduceToNat, reduceCtorEq, burinkit_Over_l0]
  refine lif_dec (fun h1 => ?_) (fun h1 => ?_)
  · have hic : i < cs.length := by omega
    obtain ⟨b, hv, hbl, hr, hw⟩ := hb.rw hic
    obtain ⟨H2, hw2, hb2, hs2⟩ := hw 90
    rw [hlc] at hv
    cases hv
    simp -implicitDefEqProofs -dsimp (disch := omega) only [go_sem, Nat.reduceEqDiff, ↓reduceIte, Nat.reduceAdd, Nat.reduceMul, Nat.reduceSub, Nat.reduceLT, Nat.reduceLeDiff, Int.reduceLT, Int.reduceLE, Int.reduceEq, Int.reduceNeg, Int.reduceAdd, Int.reduceMul, Int.reduceSub, Int.reduceToNat, reduceCtorEq, Int.toNat_natCast, Nat.mul_one, Nat.zero_add, w64]
    have hw2' : wr H1 b i [.int .u8 90] = some H2 := hw2
    simp -implicitDefEqProofs -dsimp (disch := omega) only [go_sem, Nat.reduceEqDiff, ↓reduceIte, Nat.reduceAdd, Nat.reduceMul, Nat.reduceSub, Nat.reduceLT, Nat.reduceLeDiff, Int.reduceLT, Int.reduceLE, Int.reduceEq, Int.reduceNeg, Int.reduceAdd, Int.reduceMul, Int.reduceSub, Int.reduceToNat, reduceCtorEq, hw2', w64, cadd1]
    subst hK
    exact rnd_n (bs.length - (i + 1)) (by omega) ⟨i + 1, cs.set i 90, rfl, by omega, by simpa using hlc, rfl, hb2, hs.trans hs2 fun _ _ h => h⟩
  · subst hK
    obtain ⟨v2, H2, ha, hb2, hs2, hf2⟩ := app_one (eb := 1) (m := 3) (M := [.int .u8 1, .int .u8 2, .int .u8 3]) hb rfl rfl (by omega) (by omega)
    rw [hlc] at hb2
    simp -implicitDefEqProofs -dsimp (disch := omega) only [go_sem, Nat.reduceEqDiff, ↓reduceIte, Nat.reduceAdd, Nat.reduceMul, Nat.reduceSub, Nat.reduceLT, Nat.reduceLeDiff, Int.reduceLT, Int.reduceLE, Int.reduceEq, Int.reduceNeg, Int.reduceAdd, Int.reduceMul, Int.reduceSub, Int.reduceToNat, reduceCtorEq, ha]
    have hb3 : Bytes H2 v2 (cs ++ [1, 2, 3]) := by unfold Bytes; simpa [u8s, hlc] using hb2
    have hi3 : bs.length < (cs ++ [1, 2, 3]).length := by simp [hlc]
    obtain ⟨b, hv, hbl, hr, hw⟩ := hb3.rw hi3
    obtain ⟨H3, hw3, hb4, hs3⟩ := hw 90
    subst hv
    have hw3' : wr H2 b bs.length [.int .u8 90] = some H3 := hw3
    simp -implicitDefEqProofs -dsimp (disch := omega) only [go_sem, Nat.reduceEqDiff, ↓reduceIte, Nat.reduceAdd, Nat.reduceMul, Nat.reduceSub, Nat.reduceLT, Nat.reduceLeDiff, Int.reduceLT, Int.reduceLE, Int.reduceEq, Int.reduceNeg, Int.reduceAdd, Int.reduceMul, Int.reduceSub, Int.reduceToNat, reduceCtorEq, Int.toNat_natCast, Nat.mul_one, Nat.zero_add]
    simp -implicitDefEqProofs -dsimp (disch := omega) only [go_sem, Nat.reduceEqDiff, ↓reduceIte, Nat.reduceAdd, Nat.reduceMul, Nat.reduceSub, Nat.reduceLT, Nat.reduceLeDiff, Int.reduceLT, Int.reduceLE, Int.reduceEq, Int.reduceNeg, Int.reduceAdd, Int.reduceMul, Int.reduceSub, Int.reduceToNat, reduceCtorEq, hw3']
    refine hQ H3 ((hs.trans hs2 fun _ _ h => h).trans hs3 fun y hy hb => ?_)
    exact (hf2 y hb).elim id fun hx => by have := hs.le; omega
end Go.Ab
