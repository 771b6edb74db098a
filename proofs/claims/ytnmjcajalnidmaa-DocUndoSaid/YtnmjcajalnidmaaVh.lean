/- Documents: Blit. Conditions: none. -/
import Derived.Test.YtnmjcajalnidmaaVg
set_option linter.all false
namespace Go.Ab
section
variable {P : Prog} {H : Heap} {T : List As} {Q : Out → Heap → Prop} {d : Nat} {vp vs : V} {PL : List MR} {SL : List St}
set_option maxRecDepth 4000 in
theorem docBlit_ct (hb : HasBm P) (hp : HasDoc P) {from_ to_ sx sy ww hh dx dy op : Int} (k1 : i64r sx) (k2 : i64r sy) (k3 : i64r ww) (k4 : i64r hh) (k5 : i64r dx) (k6 : i64r dy) (k7 : i64r op) (hs : Hs H (DocL d vp vs PL SL T)) (hl : SL.length ≤ 64)
    (h0 : ¬ (0 ≤ from_ ∧ from_ < PL.length) ∨ ¬ (0 ≤ to_ ∧ to_ < PL.length) → ∀ H', Hs H' (DocL d vp vs PL SL T) → Q (.ret (.int .i64 182)) H')
    (h2 : ∀ (j i : Nat) (hj : j < PL.length) (hi : i < PL.length), from_ = j → to_ = i → blitR ww hh op ≠ 0 → ∀ H', Hs H' (DocL d vp vs PL SL T) → Q (.ret (.int .i64 (toldR (blitR ww hh op)))) H')
    (h3 : ∀ (j i : Nat) (hj : j < PL.length) (hi : i < PL.length), from_ = j → to_ = i → blitR ww hh op = 0 → ∀ cb cd cp v vs' H', Hs H' (DocL d vp vs' (PL.set i ⟨PL[i].m, PL[i].w, PL[i].h, blitQ PL[i].p PL[j].p PL[j].w PL[j].h sx sy ww hh dx dy op⟩) (push SL (.put cb cd cp v PL[i].w PL[i].h PL[i].p i)) T) → Q (.ret (.int .i64 0)) H') :
    Call P 144 [.ptr (some (d, 0)), .int .i64 from_, .int .i64 sx, .int .i64 sy, .int .i64 ww, .int .i64 hh, .int .i64 to_, .int .i64 dx, .int .i64 dy, .int .i64 op] H Q := by
  refine call_of hp.h_doc_Doc_Blit rfl ?_
  have g1 := ((((((((hs.alloc (l := [.ptr (some (d, 0))])).alloc (l := [.int .i64 from_])).alloc (l := [.int .i64 sx])).alloc (l := [.int .i64 sy])).alloc (l := [.int .i64 ww])).alloc (l := [.int .i64 hh])).alloc (l := [.int .i64 dx])).alloc (l := [.int .i64 dy])).alloc (l := [.int .i64 op])
  simp only [next_new] at g1
  have g2 := docIn (A := [Cel _ [.int .i64 op], Cel _ [.int .i64 dy], Cel _ [.int .i64 dx], Cel _ [.int .i64 hh], Cel _ [.int .i64 ww], Cel _ [.int .i64 sy], Cel _ [.int .i64 sx], Cel _ [.int .i64 from_], Cel _ [.ptr (some (d, 0))]]) g1
  have q1 := rd_s (g2.celm (b := H.next) (l := [.ptr (some (d, 0))]) (docT (by simp)))
  have q2 := rd_s (g2.celm (b := H.next + 1) (l := [.int .i64 from_]) (docT (by simp)))
  simp -implicitDefEqProofs -dsimp (disch := omega) only [go_sem, Nat.reduceEqDiff, ↓reduceIte, Nat.reduceAdd, Nat.reduceMul, Nat.reduceSub, Nat.reduceLT, Nat.reduceLeDiff, Int.reduceLT, Int.reduceLE, Int.reduceEq, Int.reduceNeg, Int.reduceAdd, Int.reduceMul, Int.reduceSub, Int.reduceToNat, reduceCtorEq, dec_t, dec_f, q1, q2]
  clear q1 q2
  generalize ((((((((H.new _).new _).new _).new _).new _).new _).new _).new _).new _ = H1 at *
  generalize H.next + 1 + 1 + 1 + 1 + 1 + 1 + 1 + 1 = b9 at *
  generalize H.next + 1 + 1 + 1 + 1 + 1 + 1 + 1 = b8 at *
  generalize H.next + 1 + 1 + 1 + 1 + 1 + 1 = b7 at *
  generalize H.next + 1 + 1 + 1 + 1 + 1 = b6 at *
  generalize H.next + 1 + 1 + 1 + 1 = b5 at *
  generalize H.next + 1 + 1 + 1 = b4 at *
  generalize H.next + 1 + 1 = b3 at *
  generalize H.next + 1 = b2 at *
  generalize H.next = b1 at *
  refine is_ct hp g2 ?_
  have out : ∀ {H' vs' PL' SL'}, Hs H' (DocL d vp vs' PL' SL' ([Cel b9 [.int .i64 op], Cel b8 [.int .i64 dy], Cel b7 [.int .i64 dx], Cel b6 [.int .i64 hh], Cel b5 [.int .i64 ww], Cel b4 [.int .i64 sy], Cel b3 [.int .i64 sx], Cel b2 [.int .i64 from_], Cel b1 [.ptr (some (d, 0))]] ++ T)) → Hs H' (DocL d vp vs' PL' SL' T) := fun h => (docOut h).tail.tail.tail.tail.tail.tail.tail.tail.tail
  by_cases kf : 0 ≤ from_ ∧ from_ < PL.length
  rotate_left
  · rw [decide_eq_false kf]
    simp -implicitDefEqProofs -dsimp (disch := omega) only [go_sem, Nat.reduceEqDiff, ↓reduceIte, Nat.reduceAdd, Nat.reduceMul, Nat.reduceSub, Nat.reduceLT, Nat.reduceLeDiff, Int.reduceLT, Int.reduceLE, Int.reduceEq, Int.reduceNeg, Int.reduceAdd, Int.reduceMul, Int.reduceSub, Int.reduceToNat, reduceCtorEq, dec_t, dec_f, ]
    exact h0 (Or.inl kf) H1 (out g2)
  rw [decide_eq_true kf]
  obtain ⟨j, rfl⟩ : ∃ j : Nat, from_ = j := ⟨from_.toNat, by omega⟩
  have hj : j < PL.length := by omega
  have r1 := rd_s (g2.celm (b := b1) (l := [.ptr (some (d, 0))]) (docT (by simp)))
  simp -implicitDefEqProofs -dsimp (disch := omega) only [go_sem, Nat.reduceEqDiff, ↓reduceIte, Nat.reduceAdd, Nat.reduceMul, Nat.reduceSub, Nat.reduceLT, Nat.reduceLeDiff, Int.reduceLT, Int.reduceLE, Int.reduceEq, Int.reduceNeg, Int.reduceAdd, Int.reduceMul, Int.reduceSub, Int.reduceToNat, reduceCtorEq, dec_t, dec_f, r1]
  refine draw_ct hb hp (er := fun r => blitR ww hh op) (px := fun r => blitQ r.p PL[j].p PL[j].w PL[j].h sx sy ww hh dx dy op) g2 hl (fun i hi A H' Q' h' hQ' => ?_) (fun r k => by unfold blitQ; rw [if_neg k]) (fun k H' h' => ?_) (fun i hi e k H' h' => ?_) (fun i hi e k cb cd cp v vs' H' h' => ?_)
  · refine call_of hp.h_doc_Doc_Blit_1 rfl ?_
    have r1 := rd_s (h'.celm (b := b1) (l := [.ptr (some (d, 0))]) (docT (by simp)))
    have r2 := rd_s (h'.celm (b := b2) (l := [.int .i64 j]) (docT (by simp)))
    have r3 := rd_s (h'.celm (b := b3) (l := [.int .i64 sx]) (docT (by simp)))
    have r4 := rd_s (h'.celm (b := b4) (l := [.int .i64 sy]) (docT (by simp)))
    have r5 := rd_s (h'.celm (b := b5) (l := [.int .i64 ww]) (docT (by simp)))
    have r6 := rd_s (h'.celm (b := b6) (l := [.int .i64 hh]) (docT (by simp)))
    have r7 := rd_s (h'.celm (b := b7) (l := [.int .i64 dx]) (docT (by simp)))
    have r8 := rd_s (h'.celm (b := b8) (l := [.int .i64 dy]) (docT (by simp)))
    have r9 := rd_s (h'.celm (b := b9) (l := [.int .i64 op]) (docT (by simp)))
    have c0 := rd_s h'.cel
    have arr := h'.p1.bufr.arr
    obtain ⟨pb, po, pc, rfl⟩ := arr.at0 (by omega)
    have rp := arr.rd1 hj
    rw [List.getElem?_map, List.getElem?_eq_getElem hj, Option.map_some] at rp
    unfold MR.c at rp
    simp -implicitDefEqProofs -dsimp (disch := omega) only [go_sem, Nat.reduceEqDiff, ↓reduceIte, Nat.reduceAdd, Nat.reduceMul, Nat.reduceSub, Nat.reduceLT, Nat.reduceLeDiff, Int.reduceLT, Int.reduceLE, Int.reduceEq, Int.reduceNeg, Int.reduceAdd, Int.reduceMul, Int.reduceSub, Int.reduceToNat, reduceCtorEq, dec_t, dec_f, r1, r2, r3, r4, r5, r6, r7, r8, r9, c0, rp, Int.toNat_natCast, Nat.mul_one, d_gre]
    refine blitAt hb hi hj k1 k2 k3 k4 k5 k6 k7 h' fun H'' h'' => ?_
    simp -implicitDefEqProofs -dsimp (disch := omega) only [go_sem, Nat.reduceEqDiff, ↓reduceIte, Nat.reduceAdd, Nat.reduceMul, Nat.reduceSub, Nat.reduceLT, Nat.reduceLeDiff, Int.reduceLT, Int.reduceLE, Int.reduceEq, Int.reduceNeg, Int.reduceAdd, Int.reduceMul, Int.reduceSub, Int.reduceToNat, reduceCtorEq, dec_t, dec_f, ]
    exact hQ' H'' h''
  · simp -implicitDefEqProofs -dsimp (disch := omega) only [go_sem, Nat.reduceEqDiff, ↓reduceIte, Nat.reduceAdd, Nat.reduceMul, Nat.reduceSub, Nat.reduceLT, Nat.reduceLeDiff, Int.reduceLT, Int.reduceLE, Int.reduceEq, Int.reduceNeg, Int.reduceAdd, Int.reduceMul, Int.reduceSub, Int.reduceToNat, reduceCtorEq, dec_t, dec_f, ]
    exact h0 (Or.inr k) H' (out h')
  · simp -implicitDefEqProofs -dsimp (disch := omega) only [go_sem, Nat.reduceEqDiff, ↓reduceIte, Nat.reduceAdd, Nat.reduceMul, Nat.reduceSub, Nat.reduceLT, Nat.reduceLeDiff, Int.reduceLT, Int.reduceLE, Int.reduceEq, Int.reduceNeg, Int.reduceAdd, Int.reduceMul, Int.reduceSub, Int.reduceToNat, reduceCtorEq, dec_t, dec_f, ]
    exact h2 j i hj hi rfl e k H' (out h')
  · simp -implicitDefEqProofs -dsimp (disch := omega) only [go_sem, Nat.reduceEqDiff, ↓reduceIte, Nat.reduceAdd, Nat.reduceMul, Nat.reduceSub, Nat.reduceLT, Nat.reduceLeDiff, Int.reduceLT, Int.reduceLE, Int.reduceEq, Int.reduceNeg, Int.reduceAdd, Int.reduceMul, Int.reduceSub, Int.reduceToNat, reduceCtorEq, dec_t, dec_f, ]
    exact h3 j i hj hi rfl e k cb cd cp v vs' H' (out h')
end
end Go.Ab
