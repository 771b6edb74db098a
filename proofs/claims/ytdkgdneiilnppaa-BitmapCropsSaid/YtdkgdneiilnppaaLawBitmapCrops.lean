/- The law BitmapCrops. Conditions: none. -/
import Derived.Test.YtdkgdneiilnppaaCv
import Derived.Test.YtdkgdneiilnppaaPL2Crops
set_option linter.all false
namespace Go.Ab

theorem sameL {P : Prog} {H : Heap} {R : List As} {Q : Out → Heap → Prop} (hq : HasL2 P) {m w h : Nat} {p q : Nat → Nat → Bool} {v : V} (hs : Hs H (MapA m w h p :: Lst v 1 (Wds w h q).length (u64s (Wds w h q)) :: R)) (e : ∀ x y, x < w → y < h → p x y = q x y)
    (hQ : ∀ H', Hs H' (MapA m w h p :: Lst v 1 (Wds w h q).length (u64s (Wds w h q)) :: R) → Q (.ret (.bool true)) H') : Call P 101 [.ptr (some (m, 0)), .agg [.int .i64 w, .int .i64 h, v]] H Q := by
  refine same_ct hq hs (fun H' h' => h'.own.arr) fun H' h' => ?_
  rw [decide_eq_true ⟨rfl, rfl, Wds_congr e⟩]
  exact hQ H' h'
def crP (p : Nat → Nat → Bool) (w h : Nat) (x y : Int) : Nat → Nat → Bool := fun i j => decide ((0 ≤ x + i ∧ x + i < w) ∧ 0 ≤ y + j ∧ y + j < h) && p (x + i).toNat (y + j).toNat
theorem crP_get {p : Nat → Nat → Bool} {w h : Nat} {x y : Int} {i j : Nat} : getV w h p (x + i) (y + j) = (crP p w h x y i j).toNat := by
  unfold getV crP
  by_cases c : (0 ≤ x + i ∧ x + i < w) ∧ 0 ≤ y + j ∧ y + j < h
  · rw [if_pos (by omega), decide_eq_true c]; rfl
  · rw [if_neg (by omega), decide_eq_false c]; rfl
theorem crP_cr {p : Nat → Nat → Bool} {w h w2 h2 : Nat} {x y : Int} {u v i j : Nat} (hi : i < w2 - u) (hj : j < h2 - v) : crP (crP p w h x y) w2 h2 u v i j = crP p w h (x + u) (y + v) i j := by
  unfold crP
  have e1 : ((u : Int) + (i : Int)).toNat = u + i := by omega
  have e2 : ((v : Int) + (j : Int)).toNat = v + j := by omega
  rw [decide_eq_true (show (0 ≤ (u : Int) + i ∧ (u : Int) + i < w2) ∧ 0 ≤ (v : Int) + j ∧ (v : Int) + j < h2 by omega), Bool.true_and, e1, e2]
  rw [show x + ((u + i : Nat) : Int) = x + u + i by omega, show y + ((v + j : Nat) : Int) = y + v + j by omega]
def BcF (p m : Nat) (x y : Int) (w h a n j : Nat) (mid : List (Nat × V)) : Fr :=
  ⟨(1, .ptr (some (p, 0))) :: (3, .ptr (some (m, 0))) :: (5, .int .i64 x) :: (6, .int .i64 y) :: (7, .int .i64 w) :: (8, .int .i64 h) :: (9, .ptr (some (a, 0))) :: (16, .int .i64 n) :: (17, .int .i64 j) :: mid, []⟩
def BcI (H : Heap) (d : BmO) (cs : List V) (p m : Nat) (x y : Int) (w h a : Nat) (k : Nat) (fr : Fr) (H' : Heap) : Prop :=
  ∃ j : Nat, k = h - j ∧ j ≤ h ∧ fr = BcF p m x y w h a (cnt2 w (crP d.px d.wn d.hn x y) j) j [] ∧ Hs H' [MapA a w h (crP d.px d.wn d.hn x y), MapA m d.wn d.hn d.px, Cel p (.int .i64 d.w :: .int .i64 d.h :: d.v :: cs), Bas H]
def BcJ (H : Heap) (d : BmO) (cs : List V) (p m : Nat) (x y : Int) (w h a j : Nat) (k : Nat) (fr : Fr) (H' : Heap) : Prop :=
  ∃ i : Nat, k = w - i ∧ i ≤ w ∧ fr = BcF p m x y w h a (cnt2 w (crP d.px d.wn d.hn x y) j + cntF (fun i => crP d.px d.wn d.hn x y i j) i) j [(18, .int .i64 i)] ∧ Hs H' [MapA a w h (crP d.px d.wn d.hn x y), MapA m d.wn d.hn d.px, Cel p (.int .i64 d.w :: .int .i64 d.h :: d.v :: cs), Bas H]

set_option maxHeartbeats 2000000 in
theorem bitmapCrops {P : Prog} (hq : HasL2 P) (hg : P 111 = some burinlaw2_BitmapCrops) {H : Heap} {d s : BmO} {n1 n2 n3 n4 n5 n6 n7 n8 : Int} (kd : BmOk H d) (i1 : i64r n1) (i2 : i64r n2) (i3 : i64r n3) (i4 : i64r n4) (i5 : i64r n5) (i6 : i64r n6) :
    Call P 111 [.agg [.int .i64 d.w, .int .i64 d.h, d.v, .int .i64 s.w, .int .i64 s.h, s.v, .int .i64 n1, .int .i64 n2, .int .i64 n3, .int .i64 n4, .int .i64 n5, .int .i64 n6, .int .i64 n7, .int .i64 n8]] H fun o _ => o = .ret (.bool true) := by
  refine call_of hg rfl ?_
  have h1 := (Hs.start H).alloc (l := [.int .i64 d.w, .int .i64 d.h, d.v, .int .i64 s.w, .int .i64 s.h, s.v, .int .i64 n1, .int .i64 n2, .int .i64 n3, .int .i64 n4, .int .i64 n5, .int .i64 n6, .int .i64 n7, .int .i64 n8])
  have hc := h1.cel
  simp -implicitDefEqProofs -dsimp (disch := omega) only [go_sem, Nat.reduceEqDiff, ↓reduceIte, Nat.reduceAdd, Nat.reduceMul, Nat.reduceSub, Nat.reduceLT, Nat.reduceLeDiff, Int.reduceLT, Int.reduceLE, Int.reduceEq, Int.reduceNeg, Int.reduceAdd, Int.reduceMul, Int.reduceSub, Int.reduceToNat, reduceCtorEq, dec_t, dec_f, ]
  generalize H.new _ = H1 at *
  generalize H.next = p at *
  simp -implicitDefEqProofs -dsimp (disch := omega) only [go_sem, Nat.reduceEqDiff, ↓reduceIte, Nat.reduceAdd, Nat.reduceMul, Nat.reduceSub, Nat.reduceLT, Nat.reduceLeDiff, Int.reduceLT, Int.reduceLE, Int.reduceEq, Int.reduceNeg, Int.reduceAdd, Int.reduceMul, Int.reduceSub, Int.reduceToNat, reduceCtorEq, dec_t, dec_f, rd_m hc]
  refine mayO hq kd h1 (by simp) fun q H2 hq2 h2 => ?_
  have hc := h2.cel
  cases q with
  | false =>
    simp -implicitDefEqProofs -dsimp (disch := omega) only [go_sem, Nat.reduceEqDiff, ↓reduceIte, Nat.reduceAdd, Nat.reduceMul, Nat.reduceSub, Nat.reduceLT, Nat.reduceLeDiff, Int.reduceLT, Int.reduceLE, Int.reduceEq, Int.reduceNeg, Int.reduceAdd, Int.reduceMul, Int.reduceSub, Int.reduceToNat, reduceCtorEq, dec_t, dec_f, ]
    refine wakes_ct hq h2 fun H3 => ?_
    simp -implicitDefEqProofs -dsimp (disch := omega) only [go_sem, Nat.reduceEqDiff, ↓reduceIte, Nat.reduceAdd, Nat.reduceMul, Nat.reduceSub, Nat.reduceLT, Nat.reduceLeDiff, Int.reduceLT, Int.reduceLE, Int.reduceEq, Int.reduceNeg, Int.reduceAdd, Int.reduceMul, Int.reduceSub, Int.reduceToNat, reduceCtorEq, dec_t, dec_f, ]
  | true =>
  have hm := hq2.1 rfl
  have mm := bmM_of kd hm
  have h3 := h2.alloc (l := [.int .i64 d.w, .int .i64 d.h, d.v])
  simp -implicitDefEqProofs -dsimp (disch := omega) only [go_sem, Nat.reduceEqDiff, ↓reduceIte, Nat.reduceAdd, Nat.reduceMul, Nat.reduceSub, Nat.reduceLT, Nat.reduceLeDiff, Int.reduceLT, Int.reduceLE, Int.reduceEq, Int.reduceNeg, Int.reduceAdd, Int.reduceMul, Int.reduceSub, Int.reduceToNat, reduceCtorEq, dec_t, dec_f, rd_m hc]
  generalize H2.new _ = H3 at *
  generalize H2.next = bx at *
  refine smallO hq kd ⟨[], by rw [h3.cel]; rfl⟩ ?_
  have h4 := h3.tail
  have hc := h4.cel
  by_cases hsm : 64 * d.ws.length + 64 ≤ 60000
  · rw [decide_eq_true hsm]
    simp -implicitDefEqProofs -dsimp (disch := omega) only [go_sem, Nat.reduceEqDiff, ↓reduceIte, Nat.reduceAdd, Nat.reduceMul, Nat.reduceSub, Nat.reduceLT, Nat.reduceLeDiff, Int.reduceLT, Int.reduceLE, Int.reduceEq, Int.reduceNeg, Int.reduceAdd, Int.reduceMul, Int.reduceSub, Int.reduceToNat, reduceCtorEq, dec_t, dec_f, rd_m hc]
    refine fromO hq kd hm h4 (by simp) fun m H4 h5 => ?_
    have hc := h5.p1.cel
    have t1 := tmodP (n := n1) (k := 200) (by omega)
    have t2 := tmodP (n := n2) (k := 30) (by omega)
    simp only [show ((200 : Nat) : Int) = 200 from rfl, show ((30 : Nat) : Int) = 30 from rfl] at t1 t2
    simp -implicitDefEqProofs -dsimp (disch := omega) only [go_sem, Nat.reduceEqDiff, ↓reduceIte, Nat.reduceAdd, Nat.reduceMul, Nat.reduceSub, Nat.reduceLT, Nat.reduceLeDiff, Int.reduceLT, Int.reduceLE, Int.reduceEq, Int.reduceNeg, Int.reduceAdd, Int.reduceMul, Int.reduceSub, Int.reduceToNat, reduceCtorEq, dec_t, dec_f, rd_s hc, w64]
    generalize n1.tmod 200 = x at *
    generalize n2.tmod 30 = y at *
    refine within_ct hq.within (n := 150) i3 (by omega) (by omega) ?_
    have hw : (n3 % (150 : Nat)).toNat < 150 := by omega
    generalize (n3 % (150 : Nat)).toNat = w0 at hw ⊢
    have ew1 : (1 : Int) + (w0 : Int) = ((w0 + 1 : Nat) : Int) := by omega
    simp -implicitDefEqProofs -dsimp (disch := omega) only [go_sem, Nat.reduceEqDiff, ↓reduceIte, Nat.reduceAdd, Nat.reduceMul, Nat.reduceSub, Nat.reduceLT, Nat.reduceLeDiff, Int.reduceLT, Int.reduceLE, Int.reduceEq, Int.reduceNeg, Int.reduceAdd, Int.reduceMul, Int.reduceSub, Int.reduceToNat, reduceCtorEq, dec_t, dec_f, rd_s hc, w64, ew1]
    refine within_ct hq.within (n := 30) i4 (by omega) (by omega) ?_
    have hh : (n4 % (30 : Nat)).toNat < 30 := by omega
    generalize (n4 % (30 : Nat)).toNat = h0 at hh ⊢
    have eh1 : (1 : Int) + (h0 : Int) = ((h0 + 1 : Nat) : Int) := by omega
    simp -implicitDefEqProofs -dsimp (disch := omega) only [go_sem, Nat.reduceEqDiff, ↓reduceIte, Nat.reduceAdd, Nat.reduceMul, Nat.reduceSub, Nat.reduceLT, Nat.reduceLeDiff, Int.reduceLT, Int.reduceLE, Int.reduceEq, Int.reduceNeg, Int.reduceAdd, Int.reduceMul, Int.reduceSub, Int.reduceToNat, reduceCtorEq, dec_t, dec_f, w64, eh1]
    have hw1 : 1 ≤ w0 + 1 ∧ w0 + 1 ≤ 150 := by omega
    have hh1 : 1 ≤ h0 + 1 ∧ h0 + 1 ≤ 30 := by omega
    generalize w0 + 1 = w at *
    generalize h0 + 1 = h at *
    have ok : sizeOk (w : Int) (h : Int) := ⟨by omega, by omega, by rw [← Int.natCast_mul]; have := Nat.mul_le_mul hw1.2 hh1.2; omega⟩
    refine crop_ct hq.bm h5 (by unfold i64r; omega) (by unfold i64r; omega) (by unfold i64r; omega) (by unfold i64r; omega) (fun k => absurd ok k) fun _ a H5 h6 => ?_
    rw [Int.toNat_natCast, Int.toNat_natCast] at h6
    simp -implicitDefEqProofs -dsimp (disch := omega) only [go_sem, Nat.reduceEqDiff, ↓reduceIte, Nat.reduceAdd, Nat.reduceMul, Nat.reduceSub, Nat.reduceLT, Nat.reduceLeDiff, Int.reduceLT, Int.reduceLE, Int.reduceEq, Int.reduceNeg, Int.reduceAdd, Int.reduceMul, Int.reduceSub, Int.reduceToNat, reduceCtorEq, dec_t, dec_f, ]
    have h6 : Hs H5 [MapA a w h (crP d.px d.wn d.hn x y), MapA m d.wn d.hn d.px, Cel p (.int .i64 d.w :: .int .i64 d.h :: d.v :: [.int .i64 s.w, .int .i64 s.h, s.v, .int .i64 n1, .int .i64 n2, .int .i64 n3, .int .i64 n4, .int .i64 n5, .int .i64 n6, .int .i64 n7, .int .i64 n8]), Bas H] := h6
    refine new_ct hq.bm h6 (by omega) (by omega) (fun k => absurd ok k) fun _ b H6 h7 _ => ?_
    rw [Int.toNat_natCast, Int.toNat_natCast] at h7
    simp -implicitDefEqProofs -dsimp (disch := omega) only [go_sem, Nat.reduceEqDiff, ↓reduceIte, Nat.reduceAdd, Nat.reduceMul, Nat.reduceSub, Nat.reduceLT, Nat.reduceLeDiff, Int.reduceLT, Int.reduceLE, Int.reduceEq, Int.reduceNeg, Int.reduceAdd, Int.reduceMul, Int.reduceSub, Int.reduceToNat, reduceCtorEq, dec_t, dec_f, ]
    refine blit_ct hq.bm (h7.sel [0, 2, 1, 3, 4] (by decide)) (by unfold i64r; omega) (by unfold i64r; omega) (by unfold i64r; omega) (by unfold i64r; omega) (by decide) (by decide) (by decide) fun H7 h8 => ?_
    rw [show blitR (w : Int) (h : Int) 0 = 0 by unfold blitR; rw [if_neg (by omega), if_neg (by omega)]] at h8 ⊢
    have h8 := h8.mapc (q := crP d.px d.wn d.hn x y) fun i j hi hj => by
      rw [if_pos rfl]; unfold blitP crP
      by_cases c : (0 ≤ x + i ∧ x + i < d.wn) ∧ 0 ≤ y + j ∧ y + j < d.hn
      · rw [if_pos (by omega), decide_eq_true c, show x + ((i : Int) - 0) = x + i by omega, show y + ((j : Int) - 0) = y + j by omega]; rfl
      · rw [if_neg (by omega), decide_eq_false c]; rfl
    simp -implicitDefEqProofs -dsimp (disch := omega) only [go_sem, Nat.reduceEqDiff, ↓reduceIte, Nat.reduceAdd, Nat.reduceMul, Nat.reduceSub, Nat.reduceLT, Nat.reduceLeDiff, Int.reduceLT, Int.reduceLE, Int.reduceEq, Int.reduceNeg, Int.reduceAdd, Int.reduceMul, Int.reduceSub, Int.reduceToNat, reduceCtorEq, dec_t, dec_f, ]
    refine plain_ct hq.bm h8 fun v1 H8 h9 _ => ?_
    simp -implicitDefEqProofs -dsimp (disch := omega) only [go_sem, Nat.reduceEqDiff, ↓reduceIte, Nat.reduceAdd, Nat.reduceMul, Nat.reduceSub, Nat.reduceLT, Nat.reduceLeDiff, Int.reduceLT, Int.reduceLE, Int.reduceEq, Int.reduceNeg, Int.reduceAdd, Int.reduceMul, Int.reduceSub, Int.reduceToNat, reduceCtorEq, dec_t, dec_f, ]
    refine sameL hq (h9.sel [3, 0, 2, 4, 5] (by decide)) (fun _ _ _ _ => rfl) fun H9 h10 => ?_
    have h11 := h10.sel [0, 2, 3, 4] (by decide)
    have hc := (h11.sel [2, 3] (by decide)).cel
    simp -implicitDefEqProofs -dsimp (disch := omega) only [go_sem, Nat.reduceEqDiff, ↓reduceIte, Nat.reduceAdd, Nat.reduceMul, Nat.reduceSub, Nat.reduceLT, Nat.reduceLeDiff, Int.reduceLT, Int.reduceLE, Int.reduceEq, Int.reduceNeg, Int.reduceAdd, Int.reduceMul, Int.reduceSub, Int.reduceToNat, reduceCtorEq, dec_t, dec_f, rd_s hc]
    refine within_ct hq.within (n := w) i5 (by omega) (by omega) ?_
    have hu : (n5 % (w : Nat)).toNat < w := by
      have := Int.emod_lt_of_pos n5 (show 0 < (w : Int) by omega); omega
    generalize (n5 % (w : Nat)).toNat = u at hu ⊢
    simp -implicitDefEqProofs -dsimp (disch := omega) only [go_sem, Nat.reduceEqDiff, ↓reduceIte, Nat.reduceAdd, Nat.reduceMul, Nat.reduceSub, Nat.reduceLT, Nat.reduceLeDiff, Int.reduceLT, Int.reduceLE, Int.reduceEq, Int.reduceNeg, Int.reduceAdd, Int.reduceMul, Int.reduceSub, Int.reduceToNat, reduceCtorEq, dec_t, dec_f, rd_s hc]
    refine within_ct hq.within (n := h) i6 (by omega) (by omega) ?_
    have hv : (n6 % (h : Nat)).toNat < h := by
      have := Int.emod_lt_of_pos n6 (show 0 < (h : Int) by omega); omega
    generalize (n6 % (h : Nat)).toNat = v at hv ⊢
    have f1 : (w : Int) - (u : Int) = ((w - u : Nat) : Int) := by omega
    have f2 : (h : Int) - (v : Int) = ((h - v : Nat) : Int) := by omega
    have ok2 : sizeOk ((w - u : Nat) : Int) ((h - v : Nat) : Int) := ⟨by omega, by omega, by rw [← Int.natCast_mul]; have := Nat.mul_le_mul (show w - u ≤ 150 by omega) (show h - v ≤ 30 by omega); omega⟩
    simp -implicitDefEqProofs -dsimp (disch := omega) only [go_sem, Nat.reduceEqDiff, ↓reduceIte, Nat.reduceAdd, Nat.reduceMul, Nat.reduceSub, Nat.reduceLT, Nat.reduceLeDiff, Int.reduceLT, Int.reduceLE, Int.reduceEq, Int.reduceNeg, Int.reduceAdd, Int.reduceMul, Int.reduceSub, Int.reduceToNat, reduceCtorEq, dec_t, dec_f, w64, f1, f2]
    refine crop_ct hq.bm h11 (by unfold i64r; omega) (by unfold i64r; omega) (by unfold i64r; omega) (by unfold i64r; omega) (fun k => absurd ok2 k) fun _ c H10 h12 => ?_
    rw [Int.toNat_natCast, Int.toNat_natCast] at h12
    have h12 : Hs H10 [MapA c (w - u) (h - v) (crP (crP d.px d.wn d.hn x y) w h u v), MapA a w h (crP d.px d.wn d.hn x y), MapA m d.wn d.hn d.px, Cel p (.int .i64 d.w :: .int .i64 d.h :: d.v :: [.int .i64 s.w, .int .i64 s.h, s.v, .int .i64 n1, .int .i64 n2, .int .i64 n3, .int .i64 n4, .int .i64 n5, .int .i64 n6, .int .i64 n7, .int .i64 n8]), Bas H] := h12
    simp -implicitDefEqProofs -dsimp (disch := omega) only [go_sem, Nat.reduceEqDiff, ↓reduceIte, Nat.reduceAdd, Nat.reduceMul, Nat.reduceSub, Nat.reduceLT, Nat.reduceLeDiff, Int.reduceLT, Int.reduceLE, Int.reduceEq, Int.reduceNeg, Int.reduceAdd, Int.reduceMul, Int.reduceSub, Int.reduceToNat, reduceCtorEq, dec_t, dec_f, w64, f1, f2]
    refine crop_ct hq.bm (h12.sel [2, 0, 1, 3, 4] (by decide)) (by unfold i64r; omega) (by unfold i64r; omega) (by unfold i64r; omega) (by unfold i64r; omega) (fun k => absurd ok2 k) fun _ e H11 h13 => ?_
    rw [Int.toNat_natCast, Int.toNat_natCast] at h13
    have h13 : Hs H11 [MapA e (w - u) (h - v) (crP d.px d.wn d.hn (x + u) (y + v)), MapA m d.wn d.hn d.px, MapA c (w - u) (h - v) (crP (crP d.px d.wn d.hn x y) w h u v), MapA a w h (crP d.px d.wn d.hn x y), Cel p (.int .i64 d.w :: .int .i64 d.h :: d.v :: [.int .i64 s.w, .int .i64 s.h, s.v, .int .i64 n1, .int .i64 n2, .int .i64 n3, .int .i64 n4, .int .i64 n5, .int .i64 n6, .int .i64 n7, .int .i64 n8]), Bas H] := h13
    simp -implicitDefEqProofs -dsimp (disch := omega) only [go_sem, Nat.reduceEqDiff, ↓reduceIte, Nat.reduceAdd, Nat.reduceMul, Nat.reduceSub, Nat.reduceLT, Nat.reduceLeDiff, Int.reduceLT, Int.reduceLE, Int.reduceEq, Int.reduceNeg, Int.reduceAdd, Int.reduceMul, Int.reduceSub, Int.reduceToNat, reduceCtorEq, dec_t, dec_f, ]
    refine plain_ct hq.bm h13 fun v2 H12 h14 _ => ?_
    simp -implicitDefEqProofs -dsimp (disch := omega) only [go_sem, Nat.reduceEqDiff, ↓reduceIte, Nat.reduceAdd, Nat.reduceMul, Nat.reduceSub, Nat.reduceLT, Nat.reduceLeDiff, Int.reduceLT, Int.reduceLE, Int.reduceEq, Int.reduceNeg, Int.reduceAdd, Int.reduceMul, Int.reduceSub, Int.reduceToNat, reduceCtorEq, dec_t, dec_f, ]
    refine sameL hq (h14.sel [3, 0, 2, 4, 5, 6] (by decide)) (fun i j hi hj => crP_cr hi hj) fun H13 h15 => ?_
    have h16 := h15.sel [3, 2, 4, 5] (by decide)
    simp -implicitDefEqProofs -dsimp (disch := omega) only [go_sem, Nat.reduceEqDiff, ↓reduceIte, Nat.reduceAdd, Nat.reduceMul, Nat.reduceSub, Nat.reduceLT, Nat.reduceLeDiff, Int.reduceLT, Int.reduceLE, Int.reduceEq, Int.reduceNeg, Int.reduceAdd, Int.reduceMul, Int.reduceSub, Int.reduceToNat, reduceCtorEq, dec_t, dec_f, ]
    have ewd := mm.w
    have ehd := mm.h
    refine loop_inv (BcI H d [.int .i64 s.w, .int .i64 s.h, s.v, .int .i64 n1, .int .i64 n2, .int .i64 n3, .int .i64 n4, .int .i64 n5, .int .i64 n6, .int .i64 n7, .int .i64 n8] p m x y w h a) ?_ h _ _ ⟨0, by omega, by omega, rfl, h16⟩
    generalize [V.int .i64 s.w, V.int .i64 s.h, s.v, V.int .i64 n1, V.int .i64 n2, V.int .i64 n3, V.int .i64 n4, V.int .i64 n5, V.int .i64 n6, V.int .i64 n7, V.int .i64 n8] = cs
    rintro k fr H14 ⟨j, hk, hj, rfl, h17⟩
    generalize hK : rnd (BcI H d cs p m x y w h a) k = K
    by_cases hjh : j < h
    · simp -implicitDefEqProofs -dsimp (disch := omega) only [go_sem, Nat.reduceEqDiff, ↓reduceIte, Nat.reduceAdd, Nat.reduceMul, Nat.reduceSub, Nat.reduceLT, Nat.reduceLeDiff, Int.reduceLT, Int.reduceLE, Int.reduceEq, Int.reduceNeg, Int.reduceAdd, Int.reduceMul, Int.reduceSub, Int.reduceToNat, reduceCtorEq, dec_t, dec_f, BcF, burinlaw2_BitmapCrops_l0]
      refine loop_inv (BcJ H d cs p m x y w h a j) ?_ w _ _ ⟨0, by omega, by omega, rfl, h17⟩
      rintro k2 fr2 H15 ⟨i, hk2, hi, rfl, h18⟩
      generalize hK2 : rnd (BcJ H d cs p m x y w h a j) k2 = K2
      have hc := (h18.sel [2, 3] (by decide)).cel
      by_cases hiw : i < w
      · have hrd : rd H15 (some 3) p 0 = some (.agg [.int .i64 d.w, .int .i64 d.h, d.v]) := by rw [rd_m hc]; rfl
        simp -implicitDefEqProofs -dsimp (disch := omega) only [go_sem, Nat.reduceEqDiff, ↓reduceIte, Nat.reduceAdd, Nat.reduceMul, Nat.reduceSub, Nat.reduceLT, Nat.reduceLeDiff, Int.reduceLT, Int.reduceLE, Int.reduceEq, Int.reduceNeg, Int.reduceAdd, Int.reduceMul, Int.reduceSub, Int.reduceToNat, reduceCtorEq, dec_t, dec_f, BcF, burinlaw2_BitmapCrops_l1, hrd, w64]
        refine getO hq kd mm h18 (by simp) fun H16 h19 => ?_
        rw [crP_get]
        have hl1 := cnt2_le w (crP d.px d.wn d.hn x y) j
        have hl2 := cntF_le (fun i => crP d.px d.wn d.hn x y i j) i
        have hl3 := Nat.mul_le_mul (show j ≤ 30 by omega) (show w ≤ 150 by omega)
        have hbl := Bool.toNat_le (crP d.px d.wn d.hn x y i j)
        have e5 : ((cnt2 w (crP d.px d.wn d.hn x y) j + cntF (fun i => crP d.px d.wn d.hn x y i j) i : Nat) : Int) + (((crP d.px d.wn d.hn x y i j).toNat : Nat) : Int) = ((cnt2 w (crP d.px d.wn d.hn x y) j + cntF (fun i => crP d.px d.wn d.hn x y i j) (i + 1) : Nat) : Int) := by
          rw [cntF]; omega
        have e6 : cntF (fun i => crP d.px d.wn d.hn x y i j) (i + 1) ≤ i + 1 := cntF_le _ _
        simp -implicitDefEqProofs -dsimp (disch := omega) only [go_sem, Nat.reduceEqDiff, ↓reduceIte, Nat.reduceAdd, Nat.reduceMul, Nat.reduceSub, Nat.reduceLT, Nat.reduceLeDiff, Int.reduceLT, Int.reduceLE, Int.reduceEq, Int.reduceNeg, Int.reduceAdd, Int.reduceMul, Int.reduceSub, Int.reduceToNat, reduceCtorEq, dec_t, dec_f, e5, w64, cadd1]
        subst hK2
        exact rnd_n (w - (i + 1)) (by omega) ⟨i + 1, rfl, by omega, rfl, h19⟩
      · obtain rfl : i = w := by omega
        simp -implicitDefEqProofs -dsimp (disch := omega) only [go_sem, Nat.reduceEqDiff, ↓reduceIte, Nat.reduceAdd, Nat.reduceMul, Nat.reduceSub, Nat.reduceLT, Nat.reduceLeDiff, Int.reduceLT, Int.reduceLE, Int.reduceEq, Int.reduceNeg, Int.reduceAdd, Int.reduceMul, Int.reduceSub, Int.reduceToNat, reduceCtorEq, dec_t, dec_f, BcF, burinlaw2_BitmapCrops_l1]
        subst hK2
        simp -implicitDefEqProofs -dsimp (disch := omega) only [go_sem, Nat.reduceEqDiff, ↓reduceIte, Nat.reduceAdd, Nat.reduceMul, Nat.reduceSub, Nat.reduceLT, Nat.reduceLeDiff, Int.reduceLT, Int.reduceLE, Int.reduceEq, Int.reduceNeg, Int.reduceAdd, Int.reduceMul, Int.reduceSub, Int.reduceToNat, reduceCtorEq, dec_t, dec_f, w64, cadd1]
        subst hK
        exact rnd_n (h - (j + 1)) (by omega) ⟨j + 1, rfl, by omega, rfl, h18⟩
    · obtain rfl : j = h := by omega
      simp -implicitDefEqProofs -dsimp (disch := omega) only [go_sem, Nat.reduceEqDiff, ↓reduceIte, Nat.reduceAdd, Nat.reduceMul, Nat.reduceSub, Nat.reduceLT, Nat.reduceLeDiff, Int.reduceLT, Int.reduceLE, Int.reduceEq, Int.reduceNeg, Int.reduceAdd, Int.reduceMul, Int.reduceSub, Int.reduceToNat, reduceCtorEq, dec_t, dec_f, BcF, burinlaw2_BitmapCrops_l0]
      subst hK
      simp -implicitDefEqProofs -dsimp (disch := omega) only [go_sem, Nat.reduceEqDiff, ↓reduceIte, Nat.reduceAdd, Nat.reduceMul, Nat.reduceSub, Nat.reduceLT, Nat.reduceLeDiff, Int.reduceLT, Int.reduceLE, Int.reduceEq, Int.reduceNeg, Int.reduceAdd, Int.reduceMul, Int.reduceSub, Int.reduceToNat, reduceCtorEq, dec_t, dec_f, ]
      refine count_ct hq.bm h17 ?_
      have hc := (h17.sel [2, 3] (by decide)).cel
      have hrd : rd H14 (some 3) p 0 = some (.agg [.int .i64 d.w, .int .i64 d.h, d.v]) := by rw [rd_m hc]; rfl
      simp -implicitDefEqProofs -dsimp (disch := omega) only [go_sem, Nat.reduceEqDiff, ↓reduceIte, Nat.reduceAdd, Nat.reduceMul, Nat.reduceSub, Nat.reduceLT, Nat.reduceLeDiff, Int.reduceLT, Int.reduceLE, Int.reduceEq, Int.reduceNeg, Int.reduceAdd, Int.reduceMul, Int.reduceSub, Int.reduceToNat, reduceCtorEq, dec_t, dec_f, hrd]
      refine sameO hq kd mm h17.tail (by simp) fun H15 h18 => ?_
      rw [decide_eq_true (fun _ _ _ _ => rfl)]
      simp -implicitDefEqProofs -dsimp (disch := omega) only [go_sem, Nat.reduceEqDiff, ↓reduceIte, Nat.reduceAdd, Nat.reduceMul, Nat.reduceSub, Nat.reduceLT, Nat.reduceLeDiff, Int.reduceLT, Int.reduceLE, Int.reduceEq, Int.reduceNeg, Int.reduceAdd, Int.reduceMul, Int.reduceSub, Int.reduceToNat, reduceCtorEq, dec_t, dec_f, ]
      refine wakes_ct hq h18 fun H16 => ?_
      simp -implicitDefEqProofs -dsimp (disch := omega) only [go_sem, Nat.reduceEqDiff, ↓reduceIte, Nat.reduceAdd, Nat.reduceMul, Nat.reduceSub, Nat.reduceLT, Nat.reduceLeDiff, Int.reduceLT, Int.reduceLE, Int.reduceEq, Int.reduceNeg, Int.reduceAdd, Int.reduceMul, Int.reduceSub, Int.reduceToNat, reduceCtorEq, dec_t, dec_f, ]
  · rw [decide_eq_false hsm]
    simp -implicitDefEqProofs -dsimp (disch := omega) only [go_sem, Nat.reduceEqDiff, ↓reduceIte, Nat.reduceAdd, Nat.reduceMul, Nat.reduceSub, Nat.reduceLT, Nat.reduceLeDiff, Int.reduceLT, Int.reduceLE, Int.reduceEq, Int.reduceNeg, Int.reduceAdd, Int.reduceMul, Int.reduceSub, Int.reduceToNat, reduceCtorEq, dec_t, dec_f, ]
    refine wakes_ct hq h4 fun H3 => ?_
    simp -implicitDefEqProofs -dsimp (disch := omega) only [go_sem, Nat.reduceEqDiff, ↓reduceIte, Nat.reduceAdd, Nat.reduceMul, Nat.reduceSub, Nat.reduceLT, Nat.reduceLeDiff, Int.reduceLT, Int.reduceLE, Int.reduceEq, Int.reduceNeg, Int.reduceAdd, Int.reduceMul, Int.reduceSub, Int.reduceToNat, reduceCtorEq, dec_t, dec_f, ]
theorem law_BitmapCrops {P : Prog} (hp : HasL2 P) (hg : P 111 = some burinlaw2_BitmapCrops) (H : Heap) (cs : List V) (x : TD.Ty blitTD) (h : Is H blitTD cs x) : Call P 111 [argV blitTD cs] H fun o _ => o = .ret (.bool true) := by
  obtain ⟨d, s, n1, n2, n3, n4, n5, n6, n7, n8, rfl, k1, k2, i1, i2, i3, i4, i5, i6, i7, i8⟩ := is_blit h
  exact bitmapCrops hp hg k1 i1 i2 i3 i4 i5 i6
end Go.Ab
