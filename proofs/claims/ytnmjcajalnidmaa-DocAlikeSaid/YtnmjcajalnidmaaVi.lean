/- Documents: a rectangle, pixel by pixel. Conditions: none. -/
import Derived.Test.YtnmjcajalnidmaaVh
import Derived.Test.YtnmjcajalnidmaaC5
import Derived.Test.YtnmjcajalnidmaaPL20Alike
set_option linter.all false
namespace Go.Ab
theorem doc_congr {H : Heap} {d : Nat} {vp vs : V} {PL : List MR} {SL : List St} {T : List As} {i : Nat} {q : Nat → Nat → Bool} (hi : i < PL.length) (hs : Hs H (DocL d vp vs PL SL T)) (e : ∀ x y, x < PL[i].w → y < PL[i].h → PL[i].p x y = q x y) : Hs H (DocL d vp vs (PL.set i ⟨PL[i].m, PL[i].w, PL[i].h, q⟩) SL T) := by
  have em := docM (d := d) (vp := vp) (vs := vs) (SL := SL) (T := T) hi
  have h2 := Hs.unf em (Hs.mapc (Hs.foc (3 + i) hs em) e)
  rw [← docM_set hi ⟨PL[i].m, PL[i].w, PL[i].h, q⟩ rfl]
  exact h2
def wh0 : Nat → Nat → Bool := fun _ _ => false
def bl1 : Nat → Nat → Bool := fun _ _ => true
/-- Three pages; the second one is on its way. -/
def Al3 (H : Heap) (d w h m0 m1 m2 : Nat) (q0 p : Nat → Nat → Bool) (vp : V) (T : List As) : Prop := ∃ vs SL, SL.length ≤ 64 ∧ Hs H (DocL d vp vs [⟨m0, w, h, q0⟩, ⟨m1, w, h, p⟩, ⟨m2, w, h, wh0⟩] SL T)
section
variable {P : Prog} {H : Heap} {T : List As} {Q : Out → Heap → Prop}
def AlF (d w h a b : Nat) (x y : Int) (j : Int) (ex : List (Nat × V)) : Fr := ⟨[(3, .int .i64 w), (4, .int .i64 h), (5, .ptr (some (d, 0))), (9, .int .i64 x), (10, .int .i64 y), (11, .int .i64 a), (12, .int .i64 b), (13, .int .i64 j)] ++ ex, []⟩
set_option maxHeartbeats 1000000 in
theorem alike_row (hb : HasBm P) (hp : HasDoc P) {d w h m0 m1 m2 a b jj : Nat} {x y : Int} {q0 : Nat → Nat → Bool} {vp : V} {i0 : Int} (hi0 : i0 = x) (hw : 1 ≤ w ∧ w ≤ 80) (hh : 1 ≤ h ∧ h ≤ 20) (hx : -5 ≤ x ∧ x ≤ 90) (hy : -5 ≤ y ∧ y ≤ 30) (ha : a < 90) (hbb : b < 30) (hj : jj < b)
    (hs : Al3 H d w h m0 m1 m2 q0 (pr2 wh0 bl1 x y 0 a 0 jj 0) vp T) {Qp : Post} {s' t'}
    (hQ : ∀ H' ex, Al3 H' d w h m0 m1 m2 q0 (pr2 wh0 bl1 x y 0 a 0 jj a) vp T → Qp (.exit 4) (AlF d w h a b x y (y + jj) ex) H') :
    loopL (Call P) [3, 4, 5, 9, 10, 11, 12, 13, 14] burinlaw20_DocAlike_l1 Qp s' t' (AlF d w h a b x y (y + jj) [(14, .int .i64 i0)]) H := by
  rw [show i0 = x + ((0 : Nat) : Int) by omega]
  refine loop_cnt a (fun ii => AlF d w h a b x y (y + jj) [(14, .int .i64 (x + (ii : Nat)))]) (fun ii H' => Al3 H' d w h m0 m1 m2 q0 (pr2 wh0 bl1 x y 0 a 0 jj ii) vp T) (fun ii H1 K hi hal hn hxx hrr => ?_) 0 H (by omega) hs
  by_cases he : ii < a
  · have hn := hn he
    have e1 : x + ((ii + 1 : Nat) : Int) = x + (ii : Int) + 1 := by omega
    rw [e1] at hn
    obtain ⟨vs, SL, hsl, h1⟩ := hal
    unfold AlF at *
    simp -implicitDefEqProofs -dsimp (disch := omega) only [go_sem, Nat.reduceEqDiff, ↓reduceIte, Nat.reduceAdd, Nat.reduceMul, Nat.reduceSub, Nat.reduceLT, Nat.reduceLeDiff, Int.reduceLT, Int.reduceLE, Int.reduceEq, Int.reduceNeg, Int.reduceAdd, Int.reduceMul, Int.reduceSub, Int.reduceToNat, reduceCtorEq, dec_t, dec_f, burinlaw20_DocAlike_l1, w64, List.append_eq, List.cons_append, List.nil_append]
    refine docSet_ct hb hp (page := 1) h1 hsl (fun k => absurd (by simp) k) (fun i hi e k H2 h2 => ?_) fun i hi e k cb cd cp v vs2 H2 h2 => ?_
    · obtain rfl : i = 1 := by omega
      have ins : ¬ insideB w h (x + ii) (y + jj) := fun k' => k (by show setR w h _ _ 1 = 0; unfold setR; rw [if_pos k', if_pos (Or.inr rfl)])
      have es : setR w h (x + ii) (y + jj) 1 = 22 := by unfold setR; rw [if_neg ins]
      have h3 := doc_congr (i := 1) (q := pr2 wh0 bl1 x y 0 a 0 jj (ii + 1)) hi h2 fun i j hi' hj' => by
        show pr2 wh0 bl1 x y 0 a 0 jj ii i j = _
        unfold insideB at ins
        unfold pr2
        by_cases c : ((0 : Nat) : Int) ≤ i - x ∧ (i : Int) - x < a ∧ ((0 : Nat) : Int) ≤ j - y
        · by_cases c2 : (j : Int) - y < jj ∨ ((j : Int) - y = jj ∧ (i : Int) - x < ii)
          · rw [if_pos ⟨c, c2⟩, if_pos ⟨c, by omega⟩]
          · rw [if_neg fun q => c2 q.2, if_neg fun q => c2 (by have h4 := q.2; have h5 : i < w := hi'; have h6 : j < h := hj'; omega)]
        · rw [if_neg fun q => c q.1, if_neg fun q => c q.1]
      have hn := hn H2 ⟨vs, SL, hsl, h3⟩
      simp only [List.getElem_cons_succ, List.getElem_cons_zero, es]
      rw [show toldR 22 = 182 from rfl]
      unfold insideB at ins
      rcases (show x + ii < 0 ∨ (0 ≤ x + ii ∧ (w : Int) ≤ x + ii) ∨ (0 ≤ x + ii ∧ x + ii < w ∧ y + jj < 0) ∨ (0 ≤ x + ii ∧ x + ii < w ∧ 0 ≤ y + jj ∧ (h : Int) ≤ y + jj) by omega) with c | c | c | c <;>
      · simp -implicitDefEqProofs -dsimp (disch := omega) only [go_sem, Nat.reduceEqDiff, ↓reduceIte, Nat.reduceAdd, Nat.reduceMul, Nat.reduceSub, Nat.reduceLT, Nat.reduceLeDiff, Int.reduceLT, Int.reduceLE, Int.reduceEq, Int.reduceNeg, Int.reduceAdd, Int.reduceMul, Int.reduceSub, Int.reduceToNat, reduceCtorEq, dec_t, dec_f, w64, beq_self_eq_true]
        exact hn
    · obtain rfl : i = 1 := by omega
      have ins : insideB w h (x + ii) (y + jj) := by
        by_cases k' : insideB w h (x + ii) (y + jj)
        · exact k'
        · exact absurd (show setR w h (x + ii) (y + jj) 1 = 0 from k) (by unfold setR; rw [if_neg k']; decide)
      have ins' := ins
      unfold insideB at ins'
      obtain ⟨i1, i2, i3, i4⟩ := ins'
      have h3 := doc_congr (i := 1) (q := pr2 wh0 bl1 x y 0 a 0 jj (ii + 1)) (by simp) h2 fun i j hi' hj' => by
        show setP w h (pr2 wh0 bl1 x y 0 a 0 jj ii) (x + ii) (y + jj) 1 i j = _
        unfold setP
        rw [if_pos ⟨ins, Or.inr rfl⟩]
        exact pr2_step (x := (x + ii).toNat) (y := (y + jj).toNat) (by omega) (by omega) (Nat.zero_le _) he (Nat.zero_le _) rfl i j
      have hn := hn H2 ⟨vs2, _, push_len hsl, h3⟩
      simp -implicitDefEqProofs -dsimp (disch := omega) only [go_sem, Nat.reduceEqDiff, ↓reduceIte, Nat.reduceAdd, Nat.reduceMul, Nat.reduceSub, Nat.reduceLT, Nat.reduceLeDiff, Int.reduceLT, Int.reduceLE, Int.reduceEq, Int.reduceNeg, Int.reduceAdd, Int.reduceMul, Int.reduceSub, Int.reduceToNat, reduceCtorEq, dec_t, dec_f, w64, beq_self_eq_true]
      exact hn
  · obtain rfl : ii = a := by omega
    obtain ⟨vs, SL, hsl, h1⟩ := hal
    unfold AlF at *
    simp -implicitDefEqProofs -dsimp (disch := omega) only [go_sem, Nat.reduceEqDiff, ↓reduceIte, Nat.reduceAdd, Nat.reduceMul, Nat.reduceSub, Nat.reduceLT, Nat.reduceLeDiff, Int.reduceLT, Int.reduceLE, Int.reduceEq, Int.reduceNeg, Int.reduceAdd, Int.reduceMul, Int.reduceSub, Int.reduceToNat, reduceCtorEq, dec_t, dec_f, burinlaw20_DocAlike_l1, w64, List.append_eq, List.cons_append, List.nil_append]
    rw [hxx]
    exact hQ H1 _ ⟨vs, SL, hsl, h1⟩
set_option maxHeartbeats 1000000 in
theorem alike_rows (hb : HasBm P) (hp : HasDoc P) {d w h m0 m1 m2 a b : Nat} {x y : Int} {q0 : Nat → Nat → Bool} {vp : V} {j0 : Int} (hj0 : j0 = y) (hw : 1 ≤ w ∧ w ≤ 80) (hh : 1 ≤ h ∧ h ≤ 20) (hx : -5 ≤ x ∧ x ≤ 90) (hy : -5 ≤ y ∧ y ≤ 30) (ha : a < 90) (hbb : b < 30)
    (hs : Al3 H d w h m0 m1 m2 q0 (pr2 wh0 bl1 x y 0 a 0 0 0) vp T) {Qp : Post} {s' t'}
    (hQ : ∀ H' j ex, Al3 H' d w h m0 m1 m2 q0 (pr2 wh0 bl1 x y 0 a 0 b 0) vp T → Qp (.exit 2) (AlF d w h a b x y j ex) H') :
    loopL (Call P) [3, 4, 5, 9, 10, 11, 12, 13] burinlaw20_DocAlike_l0 Qp s' t' (AlF d w h a b x y j0 []) H := by
  rw [show j0 = y + ((0 : Nat) : Int) by omega]
  refine loop_cnt b (fun jj => AlF d w h a b x y (y + (jj : Nat)) []) (fun jj H' => Al3 H' d w h m0 m1 m2 q0 (pr2 wh0 bl1 x y 0 a 0 jj 0) vp T) (fun jj H1 K hj hal hn hxx hrr => ?_) 0 H (by omega) hs
  by_cases he : jj < b
  · have hn := hn he
    have e1 : y + ((jj + 1 : Nat) : Int) = y + (jj : Int) + 1 := by omega
    rw [e1] at hn
    have er : pr2 wh0 bl1 x y 0 a 0 jj a = pr2 wh0 bl1 x y 0 a 0 (jj + 1) 0 := by
      funext i j
      have := pr2_row (p := wh0) (f := bl1) (X := x) (Y := y) (a := 0) (c := a) (d := 0) (jj := jj) i j
      rwa [Nat.zero_max] at this
    unfold AlF
    simp -implicitDefEqProofs -dsimp (disch := omega) only [go_sem, Nat.reduceEqDiff, ↓reduceIte, Nat.reduceAdd, Nat.reduceMul, Nat.reduceSub, Nat.reduceLT, Nat.reduceLeDiff, Int.reduceLT, Int.reduceLE, Int.reduceEq, Int.reduceNeg, Int.reduceAdd, Int.reduceMul, Int.reduceSub, Int.reduceToNat, reduceCtorEq, dec_t, dec_f, burinlaw20_DocAlike_l0, w64, List.append_eq, List.cons_append, List.nil_append]
    refine alike_row hb hp (i0 := x) rfl hw hh hx hy ha hbb he hal fun H2 ex h2 => ?_
    rw [er] at h2
    have hn := hn H2 h2
    unfold AlF at hn ⊢
    simp -implicitDefEqProofs -dsimp (disch := omega) only [go_sem, Nat.reduceEqDiff, ↓reduceIte, Nat.reduceAdd, Nat.reduceMul, Nat.reduceSub, Nat.reduceLT, Nat.reduceLeDiff, Int.reduceLT, Int.reduceLE, Int.reduceEq, Int.reduceNeg, Int.reduceAdd, Int.reduceMul, Int.reduceSub, Int.reduceToNat, reduceCtorEq, dec_t, dec_f, w64, List.append_eq, List.cons_append, List.nil_append]
    exact hn
  · obtain rfl : jj = b := by omega
    unfold AlF at *
    simp -implicitDefEqProofs -dsimp (disch := omega) only [go_sem, Nat.reduceEqDiff, ↓reduceIte, Nat.reduceAdd, Nat.reduceMul, Nat.reduceSub, Nat.reduceLT, Nat.reduceLeDiff, Int.reduceLT, Int.reduceLE, Int.reduceEq, Int.reduceNeg, Int.reduceAdd, Int.reduceMul, Int.reduceSub, Int.reduceToNat, reduceCtorEq, dec_t, dec_f, burinlaw20_DocAlike_l0, w64, List.append_eq, List.cons_append, List.nil_append]
    rw [hxx]
    exact hQ H1 _ _ hal
end
end Go.Ab
