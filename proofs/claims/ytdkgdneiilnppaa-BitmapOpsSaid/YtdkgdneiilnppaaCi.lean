/- Fill, as a whole; words that are laid. Conditions: none. -/
import Derived.Test.YtdkgdneiilnppaaCh
set_option linter.all false
namespace Go.Ab

section
variable {P : Prog} {H : Heap} {R : List As} {Q : Out → Heap → Prop} {m w h : Nat} {p : Nat → Nat → Bool}

theorem Hs.mapc {q : Nat → Nat → Bool} (hs : Hs H (MapA m w h p :: R)) (e : ∀ x y, x < w → y < h → p x y = q x y) : Hs H (MapA m w h q :: R) := by
  refine hs.step fun F ⟨v, k1, k2⟩ => ⟨fun _ => False, F, Same.refl _ _, fun _ _ h => h.elim, ⟨v, k1, ⟨k2.cell, ?_, k2.lt, k2.apart, k2.w1, k2.h1, k2.area⟩⟩, fun _ hx => Or.inl hx⟩
  rw [← Wds_congr e]; exact k2.own
theorem mapSz (hs : Hs H (MapA m w h p :: R)) : 1 ≤ w ∧ 1 ≤ h ∧ w * h ≤ 1048576 ∧ w ≤ 1048576 ∧ h ≤ 1048576 := by
  obtain ⟨b0, k0⟩ := mapV hs
  have h1 := k0.area; have h2 := k0.h1; have h3 := k0.w1
  have h4 := Nat.le_mul_of_pos_right w (show 0 < h by omega)
  have h5 := Nat.le_mul_of_pos_left h (show 0 < w by omega)
  exact ⟨h3, h2, h1, by omega, by omega⟩

def i64r (n : Int) : Prop := -9223372036854775808 ≤ n ∧ n ≤ 9223372036854775807

theorem cutS_skip {off n size : Int} (ho : i64r off) : (cutS off n size).1 ≤ 9223372036854775808 ∧ -9223372036854775808 ≤ off + (cutS off n size).1 ∧ off + (cutS off n size).1 ≤ 9223372036854775807 := by
  by_cases e : (cutS off n size).1 = 0
  · rw [e]; unfold i64r at ho; omega
  · have := cutS_lt e; unfold i64r at ho; omega

theorem fill_ct (hp : HasBm P) (hs : Hs H (MapA m w h p :: R)) {x y ww hh bit : Int} (hx : i64r x) (hy : i64r y) (hw : i64r ww) (hh' : i64r hh)
    (hQ : ∀ H', Hs H' (MapA m w h (if fillR ww hh bit = 0 then fillP p x y ww hh (decide (bit = 1)) else p) :: R) → Q (.ret (.int .i64 (fillR ww hh bit))) H') :
    Call P 56 [.ptr (some (m, 0)), .int .i64 x, .int .i64 y, .int .i64 ww, .int .i64 hh, .int .i64 bit] H Q := by
  obtain ⟨b0, k0⟩ := mapV hs
  obtain ⟨s1, s2, s3, s4, s5⟩ := mapSz hs
  unfold i64r at hx hy hw hh'
  refine call_of hp.h_bitmap_Map_Fill rfl ?_
  by_cases c1 : ww < 0 ∨ hh < 0
  · rw [show fillR ww hh bit = 24 by unfold fillR; rw [if_pos c1]] at hQ
    rcases (show ww < 0 ∨ (0 ≤ ww ∧ hh < 0) by omega) with d | d <;>
    · simp -implicitDefEqProofs -dsimp (disch := omega) only [go_sem, Nat.reduceEqDiff, ↓reduceIte, Nat.reduceAdd, Nat.reduceMul, Nat.reduceSub, Nat.reduceLT, Nat.reduceLeDiff, Int.reduceLT, Int.reduceLE, Int.reduceEq, Int.reduceNeg, Int.reduceAdd, Int.reduceMul, Int.reduceSub, Int.reduceToNat, reduceCtorEq, dec_t, dec_f, ]; exact hQ H hs
  · by_cases c2 : bit = 0 ∨ bit = 1
    · rw [show fillR ww hh bit = 0 by unfold fillR; rw [if_neg c1, if_pos c2], if_pos rfl] at hQ
      have r1 := cutS_rng (off := x) (n := ww) (size := w) (by omega)
      have r2 := cutS_rng (off := y) (n := hh) (size := h) (by omega)
      have l1 := cutS_skip (off := x) (n := ww) (size := w) hx
      have l2 := cutS_skip (off := y) (n := hh) (size := h) hy
      have z1 := fun i : Int => cutS_spec (off := x) (n := ww) (size := w) (i := i) (by omega)
      have z2 := fun i : Int => cutS_spec (off := y) (n := hh) (size := h) (i := i) (by omega)
      have main : ∀ bb : Bool, bit = (bb.toNat : Nat) → decide (bit = 1) = bb → wpC (Call P) bitmap_Map_Fill.body (fin P true [.t 12] Q) ⟨frame0 0 [.ptr (some (m, 0)), .int .i64 x, .int .i64 y, .int .i64 ww, .int .i64 hh, .int .i64 bit], []⟩ H := by
        intro bb hb1 hb2
        rw [hb2] at hQ
        unfold bitmap_Map_Fill
        have hbl := Bool.toNat_le bb
        have tail : ∀ {Qq : Prop}, (bit = 0 → Qq) → (bit = 1 → Qq) → Qq := fun a b => c2.elim a b
        refine tail (fun e => ?_) (fun e => ?_) <;>
        · simp -implicitDefEqProofs -dsimp (disch := omega) only [go_sem, Nat.reduceEqDiff, ↓reduceIte, Nat.reduceAdd, Nat.reduceMul, Nat.reduceSub, Nat.reduceLT, Nat.reduceLeDiff, Int.reduceLT, Int.reduceLE, Int.reduceEq, Int.reduceNeg, Int.reduceAdd, Int.reduceMul, Int.reduceSub, Int.reduceToNat, reduceCtorEq, dec_t, dec_f, rd_s k0.cell]
          refine cut_ct hp hx hw (by omega) ?_
          simp -implicitDefEqProofs -dsimp (disch := omega) only [go_sem, Nat.reduceEqDiff, ↓reduceIte, Nat.reduceAdd, Nat.reduceMul, Nat.reduceSub, Nat.reduceLT, Nat.reduceLeDiff, Int.reduceLT, Int.reduceLE, Int.reduceEq, Int.reduceNeg, Int.reduceAdd, Int.reduceMul, Int.reduceSub, Int.reduceToNat, reduceCtorEq, dec_t, dec_f, w64, rd_s k0.cell]
          refine cut_ct hp hy hh' (by omega) ?_
          generalize hc1 : cutS x ww w = cx at *
          generalize hc2 : cutS y hh h = cy at *
          obtain ⟨xs, xl⟩ := cx
          obtain ⟨ys, yl⟩ := cy
          dsimp only at r1 r2 l1 l2 z1 z2
          have hval : ∀ i j : Nat, i < w → j < h → (fillP p x y ww hh bb i j = if (xs ≤ (i : Int) - x ∧ (i : Int) - x < xs + xl) ∧ ys ≤ (j : Int) - y ∧ (j : Int) - y < ys + yl then bb else p i j) := by
            intro i j hi hj
            unfold fillP
            have a1 := z1 ((i : Int) - x)
            have a2 := z2 ((j : Int) - y)
            by_cases d : x ≤ i ∧ (i : Int) < x + ww ∧ y ≤ j ∧ (j : Int) < y + hh
            · rw [if_pos d, if_pos ⟨a1.1 (by omega), a2.1 (by omega)⟩]
            · rw [if_neg d, if_neg (fun e => d (by have := a1.2 e.1; have := a2.2 e.2; omega))]
          by_cases hz : xl = 0 ∨ yl = 0
          · rcases (show xl = 0 ∨ (xl ≠ 0 ∧ yl = 0) by omega) with d | d <;>
            · simp -implicitDefEqProofs -dsimp (disch := omega) only [go_sem, Nat.reduceEqDiff, ↓reduceIte, Nat.reduceAdd, Nat.reduceMul, Nat.reduceSub, Nat.reduceLT, Nat.reduceLeDiff, Int.reduceLT, Int.reduceLE, Int.reduceEq, Int.reduceNeg, Int.reduceAdd, Int.reduceMul, Int.reduceSub, Int.reduceToNat, reduceCtorEq, dec_t, dec_f, w64]
              exact hQ H (hs.mapc fun i j hi hj => by rw [hval i j hi hj, if_neg (by omega)])
          · have hz1 : xl ≠ 0 := fun e => hz (Or.inl e)
            have hz2 : yl ≠ 0 := fun e => hz (Or.inr e)
            have g1 := r1.2.2.2.1 hz1
            have g2 := r2.2.2.2.1 hz2
            obtain ⟨xn, hxn⟩ : ∃ xn : Nat, x + xs = xn := ⟨(x + xs).toNat, by omega⟩
            obtain ⟨yn, hyn⟩ : ∃ yn : Nat, y + ys = yn := ⟨(y + ys).toNat, by omega⟩
            obtain ⟨wn, rfl⟩ : ∃ wn : Nat, xl = wn := ⟨xl.toNat, by omega⟩
            obtain ⟨hn, rfl⟩ : ∃ hn : Nat, yl = hn := ⟨yl.toNat, by omega⟩
            have eb : bit = ((bb.toNat : Nat) : Int) := hb1
            simp -implicitDefEqProofs -dsimp (disch := omega) only [go_sem, Nat.reduceEqDiff, ↓reduceIte, Nat.reduceAdd, Nat.reduceMul, Nat.reduceSub, Nat.reduceLT, Nat.reduceLeDiff, Int.reduceLT, Int.reduceLE, Int.reduceEq, Int.reduceNeg, Int.reduceAdd, Int.reduceMul, Int.reduceSub, Int.reduceToNat, reduceCtorEq, dec_t, dec_f, w64, hxn, hyn]
            rw [eb]
            refine fill_in hp hs (by omega) (by omega) (by omega) (by omega) fun fr H' hds h2 => ?_
            obtain ⟨tm, ds⟩ := fr
            cases hds
            simp -implicitDefEqProofs -dsimp (disch := omega) only [go_sem, Nat.reduceEqDiff, ↓reduceIte, Nat.reduceAdd, Nat.reduceMul, Nat.reduceSub, Nat.reduceLT, Nat.reduceLeDiff, Int.reduceLT, Int.reduceLE, Int.reduceEq, Int.reduceNeg, Int.reduceAdd, Int.reduceMul, Int.reduceSub, Int.reduceToNat, reduceCtorEq, dec_t, dec_f, ]
            refine hQ H' (h2.mapc fun i j hi hj => ?_)
            rw [hval i j hi hj]
            unfold fillP
            by_cases d : (xn : Int) ≤ i ∧ (i : Int) < xn + wn ∧ (yn : Int) ≤ j ∧ (j : Int) < yn + hn
            · rw [if_pos d, if_pos (by omega)]
            · rw [if_neg d, if_neg (by omega)]
      rcases c2 with rfl | rfl
      · exact main false rfl rfl
      · exact main true rfl rfl
    · rw [show fillR ww hh bit = 23 by unfold fillR; rw [if_neg c1, if_neg c2]] at hQ
      simp -implicitDefEqProofs -dsimp (disch := omega) only [go_sem, Nat.reduceEqDiff, ↓reduceIte, Nat.reduceAdd, Nat.reduceMul, Nat.reduceSub, Nat.reduceLT, Nat.reduceLeDiff, Int.reduceLT, Int.reduceLE, Int.reduceEq, Int.reduceNeg, Int.reduceAdd, Int.reduceMul, Int.reduceSub, Int.reduceToNat, reduceCtorEq, dec_t, dec_f, ]
      exact hQ H hs
end
end Go.Ab
