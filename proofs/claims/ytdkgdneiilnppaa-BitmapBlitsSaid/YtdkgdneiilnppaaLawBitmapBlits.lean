/- The law BitmapBlits. Conditions: none. -/
import Derived.Test.YtdkgdneiilnppaaCu
import Derived.Test.YtdkgdneiilnppaaPL2Blits
set_option linter.all false
namespace Go.Ab

def BlC (d s : BmO) (l : List V) : List V := [.int .i64 d.w, .int .i64 d.h, d.v, .int .i64 s.w, .int .i64 s.h, s.v] ++ l
def BbF (p m : Nat) (sx sy dx dy : Int) (w h op y : Nat) (mid : List (Nat × V)) : Fr :=
  ⟨(1, .ptr (some (p, 0))) :: (3, .ptr (some (m, 0))) :: (7, .int .i64 sx) :: (8, .int .i64 sy) :: (9, .int .i64 dx) :: (10, .int .i64 dy) :: (11, .int .i64 w) :: (12, .int .i64 h) :: (13, .int .i64 op) :: (14, .int .i64 y) :: mid, []⟩
def BbI (H : Heap) (d s : BmO) (l : List V) (p m : Nat) (sx sy dx dy : Int) (w h op : Nat) (k : Nat) (fr : Fr) (H' : Heap) : Prop :=
  ∃ y : Nat, k = d.hn - y ∧ y ≤ d.hn ∧ fr = BbF p m sx sy dx dy w h op y [] ∧ Hs H' [MapA m d.wn d.hn (blitP d.px s.px s.wn s.hn sx sy w h dx dy op), Cel p (BlC d s l), Bas H]
def BbJ (H : Heap) (d s : BmO) (l : List V) (p m : Nat) (sx sy dx dy : Int) (w h op y : Nat) (k : Nat) (fr : Fr) (H' : Heap) : Prop :=
  ∃ x : Nat, k = d.wn - x ∧ x ≤ d.wn ∧ fr = BbF p m sx sy dx dy w h op y [(15, .int .i64 x)] ∧ Hs H' [MapA m d.wn d.hn (blitP d.px s.px s.wn s.hn sx sy w h dx dy op), Cel p (BlC d s l), Bas H]

set_option maxRecDepth 4000 in
set_option maxHeartbeats 2000000 in
theorem blits_px {P : Prog} (hq : HasL2 P) {H H10 : Heap} {d s : BmO} {l : List V} {p m : Nat} {sx sy dx dy : Int} {w h op x y : Nat} (kd : BmOk H d) (ks : BmOk H s) (mm : BmM d) (ms : BmM s) (hop : op < 5)
    (t1 : -200 < sx ∧ sx < 200) (t2 : -200 < sy ∧ sy < 200) (t3 : -200 < dx ∧ dx < 200) (t4 : -200 < dy ∧ dy < 200) (hw : w < 300) (hh : h < 300) (hxw : x < d.wn) (hyh : y < d.hn)
    (h11 : Hs H10 [MapA m d.wn d.hn (blitP d.px s.px s.wn s.hn sx sy w h dx dy op), Cel p (BlC d s l), Bas H]) {Qp : Post}
    (hQ : ∀ fr H12, fr = BbF p m sx sy dx dy w h op y [(15, .int .i64 ((x + 1 : Nat) : Int))] → Hs H12 [MapA m d.wn d.hn (blitP d.px s.px s.wn s.hn sx sy w h dx dy op), Cel p (BlC d s l), Bas H] → Qp .normal fr H12) :
    wpC (Call P) burinlaw2_BitmapBlits_l1 Qp (BbF p m sx sy dx dy w h op y [(15, .int .i64 x)]) H10 := by
  have a1 := Nat.le_mul_of_pos_right d.wn (show 0 < d.hn by have := mm.h1; omega)
  have a2 := Nat.le_mul_of_pos_left d.hn (show 0 < d.wn by have := mm.w1; omega)
  have a3 := mm.area
  have a4 := Nat.le_mul_of_pos_right s.wn (show 0 < s.hn by have := ms.h1; omega)
  have a5 := Nat.le_mul_of_pos_left s.hn (show 0 < s.wn by have := ms.w1; omega)
  have a6 := ms.area
  have ew := mm.w
  have fw := ms.w
  have fh := ms.h
  obtain ⟨i, ei⟩ : ∃ i : Int, (x : Int) - dx = i := ⟨_, rfl⟩
  obtain ⟨j, ej⟩ : ∃ j : Int, (y : Int) - dy = j := ⟨_, rfl⟩
  obtain ⟨u, eu⟩ : ∃ u : Int, sx + i = u := ⟨_, rfl⟩
  obtain ⟨v, ev⟩ : ∃ v : Int, sy + j = v := ⟨_, rfl⟩
  have hc := h11.p1.cel
  unfold BlC at hc
  generalize hpq : blitP d.px s.px s.wn s.hn sx sy w h dx dy op = pq at *
  simp -implicitDefEqProofs -dsimp (disch := omega) only [go_sem, Nat.reduceEqDiff, ↓reduceIte, Nat.reduceAdd, Nat.reduceMul, Nat.reduceSub, Nat.reduceLT, Nat.reduceLeDiff, Int.reduceLT, Int.reduceLE, Int.reduceEq, Int.reduceNeg, Int.reduceAdd, Int.reduceMul, Int.reduceSub, Int.reduceToNat, reduceCtorEq, dec_t, dec_f, BbF, burinlaw2_BitmapBlits_l1, rd_s hc, rd_m hc, w64, ei, ej]
  refine getO hq kd mm h11 (by simp) fun H11 h12 => ?_
  have hc := h12.p1.cel
  unfold BlC at hc
  rw [show getV d.wn d.hn d.px (x : Int) (y : Int) = (d.px x y).toNat by unfold getV; rw [if_pos (by omega), Int.toNat_natCast, Int.toNat_natCast]]
  have hb1 := Bool.toNat_le (d.px x y)
  by_cases c : (0 ≤ i ∧ i < w ∧ 0 ≤ j ∧ j < h) ∧ 0 ≤ u ∧ u < s.wn ∧ 0 ≤ v ∧ v < s.hn
  · simp -implicitDefEqProofs -dsimp (disch := omega) only [go_sem, Nat.reduceEqDiff, ↓reduceIte, Nat.reduceAdd, Nat.reduceMul, Nat.reduceSub, Nat.reduceLT, Nat.reduceLeDiff, Int.reduceLT, Int.reduceLE, Int.reduceEq, Int.reduceNeg, Int.reduceAdd, Int.reduceMul, Int.reduceSub, Int.reduceToNat, reduceCtorEq, dec_t, dec_f, w64, rd_s hc, rd_m hc, eu, ev]
    refine getO hq ks ms h12 (by simp) fun H12 h13 => ?_
    rw [show getV s.wn s.hn s.px u v = (s.px u.toNat v.toNat).toNat by unfold getV; rw [if_pos (by omega)]]
    simp -implicitDefEqProofs -dsimp (disch := omega) only [go_sem, Nat.reduceEqDiff, ↓reduceIte, Nat.reduceAdd, Nat.reduceMul, Nat.reduceSub, Nat.reduceLT, Nat.reduceLeDiff, Int.reduceLT, Int.reduceLE, Int.reduceEq, Int.reduceNeg, Int.reduceAdd, Int.reduceMul, Int.reduceSub, Int.reduceToNat, reduceCtorEq, dec_t, dec_f, ]
    refine do_ct hq.rz hop ?_
    simp -implicitDefEqProofs -dsimp (disch := omega) only [go_sem, Nat.reduceEqDiff, ↓reduceIte, Nat.reduceAdd, Nat.reduceMul, Nat.reduceSub, Nat.reduceLT, Nat.reduceLeDiff, Int.reduceLT, Int.reduceLE, Int.reduceEq, Int.reduceNeg, Int.reduceAdd, Int.reduceMul, Int.reduceSub, Int.reduceToNat, reduceCtorEq, dec_t, dec_f, ]
    refine get_ct hq.bm h13 ?_
    have e : getV d.wn d.hn pq (x : Int) (y : Int) = (opB op (d.px x y) (s.px u.toNat v.toNat)).toNat := by
      rw [← hpq]
      unfold getV blitP; rw [if_pos (by omega), Int.toNat_natCast, Int.toNat_natCast, if_pos (by omega), ei, ej, eu, ev]
    rw [e]
    simp -implicitDefEqProofs -dsimp (disch := omega) only [go_sem, Nat.reduceEqDiff, ↓reduceIte, Nat.reduceAdd, Nat.reduceMul, Nat.reduceSub, Nat.reduceLT, Nat.reduceLeDiff, Int.reduceLT, Int.reduceLE, Int.reduceEq, Int.reduceNeg, Int.reduceAdd, Int.reduceMul, Int.reduceSub, Int.reduceToNat, reduceCtorEq, dec_t, dec_f, w64, cadd1]
    exact hQ _ H12 rfl h13
  · have e : getV d.wn d.hn pq (x : Int) (y : Int) = (d.px x y).toNat := by
      rw [← hpq]
      unfold getV blitP; rw [if_pos (by omega), Int.toNat_natCast, Int.toNat_natCast, if_neg (by omega)]
    rcases (show i < 0 ∨ (0 ≤ i ∧ (w : Int) ≤ i) ∨ ((0 ≤ i ∧ i < w) ∧ j < 0) ∨ ((0 ≤ i ∧ i < w ∧ 0 ≤ j) ∧ (h : Int) ≤ j) ∨ ((0 ≤ i ∧ i < w ∧ 0 ≤ j ∧ j < h) ∧ u < 0) ∨ ((0 ≤ i ∧ i < w ∧ 0 ≤ j ∧ j < h ∧ 0 ≤ u) ∧ (s.wn : Int) ≤ u) ∨
      ((0 ≤ i ∧ i < w ∧ 0 ≤ j ∧ j < h ∧ 0 ≤ u ∧ u < s.wn) ∧ v < 0) ∨ ((0 ≤ i ∧ i < w ∧ 0 ≤ j ∧ j < h ∧ 0 ≤ u ∧ u < s.wn ∧ 0 ≤ v) ∧ (s.hn : Int) ≤ v) by omega) with z | z | z | z | z | z | z | z <;>
    · simp -implicitDefEqProofs -dsimp (disch := omega) only [go_sem, Nat.reduceEqDiff, ↓reduceIte, Nat.reduceAdd, Nat.reduceMul, Nat.reduceSub, Nat.reduceLT, Nat.reduceLeDiff, Int.reduceLT, Int.reduceLE, Int.reduceEq, Int.reduceNeg, Int.reduceAdd, Int.reduceMul, Int.reduceSub, Int.reduceToNat, reduceCtorEq, dec_t, dec_f, w64, rd_s hc, rd_m hc, eu, ev]
      refine get_ct hq.bm h12 ?_
      rw [e]
      simp -implicitDefEqProofs -dsimp (disch := omega) only [go_sem, Nat.reduceEqDiff, ↓reduceIte, Nat.reduceAdd, Nat.reduceMul, Nat.reduceSub, Nat.reduceLT, Nat.reduceLeDiff, Int.reduceLT, Int.reduceLE, Int.reduceEq, Int.reduceNeg, Int.reduceAdd, Int.reduceMul, Int.reduceSub, Int.reduceToNat, reduceCtorEq, dec_t, dec_f, w64, cadd1]
      exact hQ _ H11 rfl h12

set_option maxHeartbeats 2000000 in
theorem bitmapBlits {P : Prog} (hq : HasL2 P) (hg : P 105 = some burinlaw2_BitmapBlits) {H : Heap} {d s : BmO} {n1 n2 n3 n4 n5 n6 n7 n8 : Int} (kd : BmOk H d) (ks : BmOk H s)
    (i1 : i64r n1) (i2 : i64r n2) (i3 : i64r n3) (i4 : i64r n4) (i5 : i64r n5) (i6 : i64r n6) (i7 : i64r n7) :
    Call P 105 [.agg [.int .i64 d.w, .int .i64 d.h, d.v, .int .i64 s.w, .int .i64 s.h, s.v, .int .i64 n1, .int .i64 n2, .int .i64 n3, .int .i64 n4, .int .i64 n5, .int .i64 n6, .int .i64 n7, .int .i64 n8]] H fun o _ => o = .ret (.bool true) := by
  refine call_of hg rfl ?_
  have h1 := (Hs.start H).alloc (l := [.int .i64 d.w, .int .i64 d.h, d.v, .int .i64 s.w, .int .i64 s.h, s.v, .int .i64 n1, .int .i64 n2, .int .i64 n3, .int .i64 n4, .int .i64 n5, .int .i64 n6, .int .i64 n7, .int .i64 n8])
  have hc := h1.cel
  simp -implicitDefEqProofs -dsimp (disch := omega) only [go_sem, Nat.reduceEqDiff, ↓reduceIte, Nat.reduceAdd, Nat.reduceMul, Nat.reduceSub, Nat.reduceLT, Nat.reduceLeDiff, Int.reduceLT, Int.reduceLE, Int.reduceEq, Int.reduceNeg, Int.reduceAdd, Int.reduceMul, Int.reduceSub, Int.reduceToNat, reduceCtorEq, dec_t, dec_f, ]
  generalize H.new _ = H1 at *
  generalize H.next = p at *
  simp -implicitDefEqProofs -dsimp (disch := omega) only [go_sem, Nat.reduceEqDiff, ↓reduceIte, Nat.reduceAdd, Nat.reduceMul, Nat.reduceSub, Nat.reduceLT, Nat.reduceLeDiff, Int.reduceLT, Int.reduceLE, Int.reduceEq, Int.reduceNeg, Int.reduceAdd, Int.reduceMul, Int.reduceSub, Int.reduceToNat, reduceCtorEq, dec_t, dec_f, rd_m hc]
  refine mayO hq kd h1 (by simp) fun q H2 hq2 h2 => ?_
  have hc := h2.cel
  cases q with
  | false =>
    simp -implicitDefEqProofs -dsimp (disch := omega) only [go_sem, Nat.reduceEqDiff, ↓reduceIte, Nat.reduceAdd, Nat.reduceMul, Nat.reduceSub, Nat.reduceLT, Nat.reduceLeDiff, Int.reduceLT, Int.reduceLE, Int.reduceEq, Int.reduceNeg, Int.reduceAdd, Int.reduceMul, Int.reduceSub, Int.reduceToNat, reduceCtorEq, dec_t, dec_f, ]
    refine wakes_ct hq h2 fun H3 => ?_
    simp -implicitDefEqProofs -dsimp (disch := omega) only [go_sem, Nat.reduceEqDiff, ↓reduceIte, Nat.reduceAdd, Nat.reduceMul, Nat.reduceSub, Nat.reduceLT, Nat.reduceLeDiff, Int.reduceLT, Int.reduceLE, Int.reduceEq, Int.reduceNeg, Int.reduceAdd, Int.reduceMul, Int.reduceSub, Int.reduceToNat, reduceCtorEq, dec_t, dec_f, ]
  | true =>
  have hm := hq2.1 rfl
  have mm := bmM_of kd hm
  simp -implicitDefEqProofs -dsimp (disch := omega) only [go_sem, Nat.reduceEqDiff, ↓reduceIte, Nat.reduceAdd, Nat.reduceMul, Nat.reduceSub, Nat.reduceLT, Nat.reduceLeDiff, Int.reduceLT, Int.reduceLE, Int.reduceEq, Int.reduceNeg, Int.reduceAdd, Int.reduceMul, Int.reduceSub, Int.reduceToNat, reduceCtorEq, dec_t, dec_f, rd_m hc]
  refine mayO hq ks h2 (by simp) fun q H3 hq3 h3 => ?_
  have hc := h3.cel
  cases q with
  | false =>
    simp -implicitDefEqProofs -dsimp (disch := omega) only [go_sem, Nat.reduceEqDiff, ↓reduceIte, Nat.reduceAdd, Nat.reduceMul, Nat.reduceSub, Nat.reduceLT, Nat.reduceLeDiff, Int.reduceLT, Int.reduceLE, Int.reduceEq, Int.reduceNeg, Int.reduceAdd, Int.reduceMul, Int.reduceSub, Int.reduceToNat, reduceCtorEq, dec_t, dec_f, ]
    refine wakes_ct hq h3 fun H3 => ?_
    simp -implicitDefEqProofs -dsimp (disch := omega) only [go_sem, Nat.reduceEqDiff, ↓reduceIte, Nat.reduceAdd, Nat.reduceMul, Nat.reduceSub, Nat.reduceLT, Nat.reduceLeDiff, Int.reduceLT, Int.reduceLE, Int.reduceEq, Int.reduceNeg, Int.reduceAdd, Int.reduceMul, Int.reduceSub, Int.reduceToNat, reduceCtorEq, dec_t, dec_f, ]
  | true =>
  have hms := hq3.1 rfl
  have ms := bmM_of ks hms
  have h4 := h3.alloc (l := [.int .i64 d.w, .int .i64 d.h, d.v, .int .i64 s.w, .int .i64 s.h, s.v])
  simp -implicitDefEqProofs -dsimp (disch := omega) only [go_sem, Nat.reduceEqDiff, ↓reduceIte, Nat.reduceAdd, Nat.reduceMul, Nat.reduceSub, Nat.reduceLT, Nat.reduceLeDiff, Int.reduceLT, Int.reduceLE, Int.reduceEq, Int.reduceNeg, Int.reduceAdd, Int.reduceMul, Int.reduceSub, Int.reduceToNat, reduceCtorEq, dec_t, dec_f, rd_m hc]
  generalize H3.new _ = H4 at *
  generalize H3.next = bx at *
  refine small2 hq kd ks h4.cel ?_
  by_cases hsm : 64 * d.ws.length + 64 + (64 * s.ws.length + 64) ≤ 60000
  · rw [decide_eq_true hsm]
    have h4 := h4.tail
    have hc := h4.cel
    simp -implicitDefEqProofs -dsimp (disch := omega) only [go_sem, Nat.reduceEqDiff, ↓reduceIte, Nat.reduceAdd, Nat.reduceMul, Nat.reduceSub, Nat.reduceLT, Nat.reduceLeDiff, Int.reduceLT, Int.reduceLE, Int.reduceEq, Int.reduceNeg, Int.reduceAdd, Int.reduceMul, Int.reduceSub, Int.reduceToNat, reduceCtorEq, dec_t, dec_f, rd_m hc]
    refine fromO hq kd hm h4 (by simp) fun m H5 h5 => ?_
    have hc := h5.p1.cel
    simp -implicitDefEqProofs -dsimp (disch := omega) only [go_sem, Nat.reduceEqDiff, ↓reduceIte, Nat.reduceAdd, Nat.reduceMul, Nat.reduceSub, Nat.reduceLT, Nat.reduceLeDiff, Int.reduceLT, Int.reduceLE, Int.reduceEq, Int.reduceNeg, Int.reduceAdd, Int.reduceMul, Int.reduceSub, Int.reduceToNat, reduceCtorEq, dec_t, dec_f, rd_m hc]
    refine fromO hq ks hms h5 (by simp) fun ms' H6 h6 => ?_
    have hc := h6.p2.cel
    have t1 := tmodP (n := n1) (k := 200) (by omega)
    have t2 := tmodP (n := n2) (k := 200) (by omega)
    have t3 := tmodP (n := n3) (k := 200) (by omega)
    have t4 := tmodP (n := n4) (k := 200) (by omega)
    simp only [show ((200 : Nat) : Int) = 200 from rfl] at t1 t2 t3 t4
    simp -implicitDefEqProofs -dsimp (disch := omega) only [go_sem, Nat.reduceEqDiff, ↓reduceIte, Nat.reduceAdd, Nat.reduceMul, Nat.reduceSub, Nat.reduceLT, Nat.reduceLeDiff, Int.reduceLT, Int.reduceLE, Int.reduceEq, Int.reduceNeg, Int.reduceAdd, Int.reduceMul, Int.reduceSub, Int.reduceToNat, reduceCtorEq, dec_t, dec_f, rd_s hc, w64]
    generalize n1.tmod 200 = sx at *
    generalize n2.tmod 200 = sy at *
    generalize n3.tmod 200 = dx at *
    generalize n4.tmod 200 = dy at *
    refine within_ct hq.within (n := 300) i5 (by omega) (by omega) ?_
    have hw : (n5 % (300 : Nat)).toNat < 300 := by omega
    generalize (n5 % (300 : Nat)).toNat = w at hw ⊢
    simp -implicitDefEqProofs -dsimp (disch := omega) only [go_sem, Nat.reduceEqDiff, ↓reduceIte, Nat.reduceAdd, Nat.reduceMul, Nat.reduceSub, Nat.reduceLT, Nat.reduceLeDiff, Int.reduceLT, Int.reduceLE, Int.reduceEq, Int.reduceNeg, Int.reduceAdd, Int.reduceMul, Int.reduceSub, Int.reduceToNat, reduceCtorEq, dec_t, dec_f, rd_s hc]
    refine within_ct hq.within (n := 300) i6 (by omega) (by omega) ?_
    have hh : (n6 % (300 : Nat)).toNat < 300 := by omega
    generalize (n6 % (300 : Nat)).toNat = h at hh ⊢
    simp -implicitDefEqProofs -dsimp (disch := omega) only [go_sem, Nat.reduceEqDiff, ↓reduceIte, Nat.reduceAdd, Nat.reduceMul, Nat.reduceSub, Nat.reduceLT, Nat.reduceLeDiff, Int.reduceLT, Int.reduceLE, Int.reduceEq, Int.reduceNeg, Int.reduceAdd, Int.reduceMul, Int.reduceSub, Int.reduceToNat, reduceCtorEq, dec_t, dec_f, rd_s hc]
    refine within_ct hq.within (n := 5) i7 (by omega) (by omega) ?_
    have hop : (n7 % (5 : Nat)).toNat < 5 := by omega
    generalize (n7 % (5 : Nat)).toNat = op at hop ⊢
    simp -implicitDefEqProofs -dsimp (disch := omega) only [go_sem, Nat.reduceEqDiff, ↓reduceIte, Nat.reduceAdd, Nat.reduceMul, Nat.reduceSub, Nat.reduceLT, Nat.reduceLeDiff, Int.reduceLT, Int.reduceLE, Int.reduceEq, Int.reduceNeg, Int.reduceAdd, Int.reduceMul, Int.reduceSub, Int.reduceToNat, reduceCtorEq, dec_t, dec_f, ]
    refine blit_ct hq.bm h6.p1 (by unfold i64r; omega) (by unfold i64r; omega) (by unfold i64r; omega) (by unfold i64r; omega) (by unfold i64r; omega) (by unfold i64r; omega) (by unfold i64r; omega) fun H7 h7 => ?_
    have e0 : blitR (w : Int) (h : Int) (op : Int) = 0 := by unfold blitR; rw [if_neg (by omega), if_neg (by omega)]
    rw [e0, if_pos rfl, Int.toNat_natCast] at h7
    rw [e0]
    have hc := h7.p2.cel
    simp -implicitDefEqProofs -dsimp (disch := omega) only [go_sem, Nat.reduceEqDiff, ↓reduceIte, Nat.reduceAdd, Nat.reduceMul, Nat.reduceSub, Nat.reduceLT, Nat.reduceLeDiff, Int.reduceLT, Int.reduceLE, Int.reduceEq, Int.reduceNeg, Int.reduceAdd, Int.reduceMul, Int.reduceSub, Int.reduceToNat, reduceCtorEq, dec_t, dec_f, rd_m hc]
    refine sameO hq ks ms h7.p1 (by simp) fun H8 h8 => ?_
    rw [decide_eq_true (fun _ _ _ _ => rfl)]
    generalize hl : [V.int .i64 n1, .int .i64 n2, .int .i64 n3, .int .i64 n4, .int .i64 n5, .int .i64 n6, .int .i64 n7, .int .i64 n8] = l at *
    have h9 : Hs H8 [MapA m d.wn d.hn (blitP d.px s.px s.wn s.hn sx sy w h dx dy op), Cel p (BlC d s l), Bas H] := h8.tail
    have a1 := Nat.le_mul_of_pos_right d.wn (show 0 < d.hn by have := mm.h1; omega)
    have a2 := Nat.le_mul_of_pos_left d.hn (show 0 < d.wn by have := mm.w1; omega)
    have a3 := mm.area
    have a4 := Nat.le_mul_of_pos_right s.wn (show 0 < s.hn by have := ms.h1; omega)
    have a5 := Nat.le_mul_of_pos_left s.hn (show 0 < s.wn by have := ms.w1; omega)
    have a6 := ms.area
    have ew := mm.w
    have eh := mm.h
    have fw := ms.w
    have fh := ms.h
    simp -implicitDefEqProofs -dsimp (disch := omega) only [go_sem, Nat.reduceEqDiff, ↓reduceIte, Nat.reduceAdd, Nat.reduceMul, Nat.reduceSub, Nat.reduceLT, Nat.reduceLeDiff, Int.reduceLT, Int.reduceLE, Int.reduceEq, Int.reduceNeg, Int.reduceAdd, Int.reduceMul, Int.reduceSub, Int.reduceToNat, reduceCtorEq, dec_t, dec_f, ]
    refine loop_inv (BbI H d s l p m sx sy dx dy w h op) ?_ d.hn _ _ ⟨0, by omega, by omega, rfl, h9⟩
    rintro k fr H9 ⟨y, hk, hy, rfl, h10⟩
    generalize hK : rnd (BbI H d s l p m sx sy dx dy w h op) k = K
    have hc := h10.p1.cel
    unfold BlC at hc
    by_cases hyh : y < d.hn
    · simp -implicitDefEqProofs -dsimp (disch := omega) only [go_sem, Nat.reduceEqDiff, ↓reduceIte, Nat.reduceAdd, Nat.reduceMul, Nat.reduceSub, Nat.reduceLT, Nat.reduceLeDiff, Int.reduceLT, Int.reduceLE, Int.reduceEq, Int.reduceNeg, Int.reduceAdd, Int.reduceMul, Int.reduceSub, Int.reduceToNat, reduceCtorEq, dec_t, dec_f, BbF, burinlaw2_BitmapBlits_l0, rd_s hc]
      refine loop_inv (BbJ H d s l p m sx sy dx dy w h op y) ?_ d.wn _ _ ⟨0, by omega, by omega, rfl, h10⟩
      rintro k2 fr2 H10 ⟨x, hk2, hx, rfl, h11⟩
      generalize hK2 : rnd (BbJ H d s l p m sx sy dx dy w h op y) k2 = K2
      have hc := h11.p1.cel
      unfold BlC at hc
      by_cases hxw : x < d.wn
      · refine blits_px hq kd ks mm ms hop (by omega) (by omega) (by omega) (by omega) hw hh hxw hyh h11 fun fr' H12 hfr h13 => ?_
        subst hfr
        subst hK2
        exact rnd_n (d.wn - (x + 1)) (by omega) ⟨x + 1, rfl, by omega, rfl, h13⟩
      · obtain rfl : x = d.wn := by omega
        simp -implicitDefEqProofs -dsimp (disch := omega) only [go_sem, Nat.reduceEqDiff, ↓reduceIte, Nat.reduceAdd, Nat.reduceMul, Nat.reduceSub, Nat.reduceLT, Nat.reduceLeDiff, Int.reduceLT, Int.reduceLE, Int.reduceEq, Int.reduceNeg, Int.reduceAdd, Int.reduceMul, Int.reduceSub, Int.reduceToNat, reduceCtorEq, dec_t, dec_f, BbF, burinlaw2_BitmapBlits_l1, rd_s hc]
        subst hK2
        simp -implicitDefEqProofs -dsimp (disch := omega) only [go_sem, Nat.reduceEqDiff, ↓reduceIte, Nat.reduceAdd, Nat.reduceMul, Nat.reduceSub, Nat.reduceLT, Nat.reduceLeDiff, Int.reduceLT, Int.reduceLE, Int.reduceEq, Int.reduceNeg, Int.reduceAdd, Int.reduceMul, Int.reduceSub, Int.reduceToNat, reduceCtorEq, dec_t, dec_f, w64, cadd1]
        subst hK
        exact rnd_n (d.hn - (y + 1)) (by omega) ⟨y + 1, rfl, by omega, rfl, h11⟩
    · obtain rfl : y = d.hn := by omega
      simp -implicitDefEqProofs -dsimp (disch := omega) only [go_sem, Nat.reduceEqDiff, ↓reduceIte, Nat.reduceAdd, Nat.reduceMul, Nat.reduceSub, Nat.reduceLT, Nat.reduceLeDiff, Int.reduceLT, Int.reduceLE, Int.reduceEq, Int.reduceNeg, Int.reduceAdd, Int.reduceMul, Int.reduceSub, Int.reduceToNat, reduceCtorEq, dec_t, dec_f, BbF, burinlaw2_BitmapBlits_l0, rd_s hc]
      subst hK
      simp -implicitDefEqProofs -dsimp (disch := omega) only [go_sem, Nat.reduceEqDiff, ↓reduceIte, Nat.reduceAdd, Nat.reduceMul, Nat.reduceSub, Nat.reduceLT, Nat.reduceLeDiff, Int.reduceLT, Int.reduceLE, Int.reduceEq, Int.reduceNeg, Int.reduceAdd, Int.reduceMul, Int.reduceSub, Int.reduceToNat, reduceCtorEq, dec_t, dec_f, ]
      refine wakes_ct hq h10 fun H3 => ?_
      simp -implicitDefEqProofs -dsimp (disch := omega) only [go_sem, Nat.reduceEqDiff, ↓reduceIte, Nat.reduceAdd, Nat.reduceMul, Nat.reduceSub, Nat.reduceLT, Nat.reduceLeDiff, Int.reduceLT, Int.reduceLE, Int.reduceEq, Int.reduceNeg, Int.reduceAdd, Int.reduceMul, Int.reduceSub, Int.reduceToNat, reduceCtorEq, dec_t, dec_f, ]
  · rw [decide_eq_false hsm]
    simp -implicitDefEqProofs -dsimp (disch := omega) only [go_sem, Nat.reduceEqDiff, ↓reduceIte, Nat.reduceAdd, Nat.reduceMul, Nat.reduceSub, Nat.reduceLT, Nat.reduceLeDiff, Int.reduceLT, Int.reduceLE, Int.reduceEq, Int.reduceNeg, Int.reduceAdd, Int.reduceMul, Int.reduceSub, Int.reduceToNat, reduceCtorEq, dec_t, dec_f, ]
    refine wakes_ct hq h4 fun H3 => ?_
    simp -implicitDefEqProofs -dsimp (disch := omega) only [go_sem, Nat.reduceEqDiff, ↓reduceIte, Nat.reduceAdd, Nat.reduceMul, Nat.reduceSub, Nat.reduceLT, Nat.reduceLeDiff, Int.reduceLT, Int.reduceLE, Int.reduceEq, Int.reduceNeg, Int.reduceAdd, Int.reduceMul, Int.reduceSub, Int.reduceToNat, reduceCtorEq, dec_t, dec_f, ]
theorem law_BitmapBlits {P : Prog} (hp : HasL2 P) (hg : P 105 = some burinlaw2_BitmapBlits) (H : Heap) (cs : List V) (x : TD.Ty blitTD) (h : Is H blitTD cs x) : Call P 105 [argV blitTD cs] H fun o _ => o = .ret (.bool true) := by
  obtain ⟨d, s, n1, n2, n3, n4, n5, n6, n7, n8, rfl, k1, k2, i1, i2, i3, i4, i5, i6, i7, i8⟩ := is_blit h
  exact bitmapBlits hp hg k1 k2 i1 i2 i3 i4 i5 i6 i7
end Go.Ab
