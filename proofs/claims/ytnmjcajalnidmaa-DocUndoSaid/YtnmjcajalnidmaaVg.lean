/- Documents: Fill, Blit. Conditions: none. -/
import Derived.Test.YtnmjcajalnidmaaVe
set_option linter.all false
namespace Go.Ab
def fillQ (p : Nat → Nat → Bool) (x y ww hh bit : Int) : Nat → Nat → Bool := if fillR ww hh bit = 0 then fillP p x y ww hh (decide (bit = 1)) else p
def blitQ (p q : Nat → Nat → Bool) (sw sh : Nat) (sx sy ww hh dx dy op : Int) : Nat → Nat → Bool := if blitR ww hh op = 0 then blitP p q sw sh sx sy ww hh dx dy op.toNat else p
section
variable {P : Prog} {H : Heap} {T : List As} {Q : Out → Heap → Prop} {d : Nat} {vp vs : V} {PL : List MR} {SL : List St}
theorem fillAt (hb : HasBm P) {i : Nat} (hi : i < PL.length) {x y ww hh bit : Int} (hx : i64r x) (hy : i64r y) (hw : i64r ww) (hh' : i64r hh) (hs : Hs H (DocL d vp vs PL SL T))
    (hQ : ∀ H', Hs H' (DocL d vp vs (PL.set i ⟨PL[i].m, PL[i].w, PL[i].h, fillQ PL[i].p x y ww hh bit⟩) SL T) → Q (.ret (.int .i64 (fillR ww hh bit))) H') : Call P 56 [.ptr (some (PL[i].m, 0)), .int .i64 x, .int .i64 y, .int .i64 ww, .int .i64 hh, .int .i64 bit] H Q := by
  have em := docM (d := d) (vp := vp) (vs := vs) (SL := SL) (T := T) hi
  refine fill_ct hb (Hs.foc (3 + i) hs em) hx hy hw hh' fun H' h' => hQ H' ?_
  have h2 := Hs.unf em h'
  rw [← docM_set hi ⟨PL[i].m, PL[i].w, PL[i].h, fillQ PL[i].p x y ww hh bit⟩ rfl]
  exact h2
theorem docFill_ct (hb : HasBm P) (hp : HasDoc P) {page x y ww hh bit : Int} (hx : i64r x) (hy : i64r y) (hw : i64r ww) (hh' : i64r hh) (hs : Hs H (DocL d vp vs PL SL T)) (hl : SL.length ≤ 64)
    (h1 : ¬ (0 ≤ page ∧ page < PL.length) → ∀ H', Hs H' (DocL d vp vs PL SL T) → Q (.ret (.int .i64 182)) H')
    (h2 : ∀ (i : Nat) (hi : i < PL.length), page = i → fillR ww hh bit ≠ 0 → ∀ H', Hs H' (DocL d vp vs PL SL T) → Q (.ret (.int .i64 (toldR (fillR ww hh bit)))) H')
    (h3 : ∀ (i : Nat) (hi : i < PL.length), page = i → fillR ww hh bit = 0 → ∀ cb cd cp v vs' H', Hs H' (DocL d vp vs' (PL.set i ⟨PL[i].m, PL[i].w, PL[i].h, fillQ PL[i].p x y ww hh bit⟩) (push SL (.put cb cd cp v PL[i].w PL[i].h PL[i].p i)) T) → Q (.ret (.int .i64 0)) H') :
    Call P 142 [.ptr (some (d, 0)), .int .i64 page, .int .i64 x, .int .i64 y, .int .i64 ww, .int .i64 hh, .int .i64 bit] H Q := by
  refine call_of hp.h_doc_Doc_Fill rfl ?_
  have g1 := ((((hs.alloc (l := [.int .i64 x])).alloc (l := [.int .i64 y])).alloc (l := [.int .i64 ww])).alloc (l := [.int .i64 hh])).alloc (l := [.int .i64 bit])
  simp only [next_new] at g1
  simp -implicitDefEqProofs -dsimp (disch := omega) only [go_sem, Nat.reduceEqDiff, ↓reduceIte, Nat.reduceAdd, Nat.reduceMul, Nat.reduceSub, Nat.reduceLT, Nat.reduceLeDiff, Int.reduceLT, Int.reduceLE, Int.reduceEq, Int.reduceNeg, Int.reduceAdd, Int.reduceMul, Int.reduceSub, Int.reduceToNat, reduceCtorEq, dec_t, dec_f, ]
  generalize ((((H.new _).new _).new _).new _).new _ = H1 at *
  generalize H.next + 1 + 1 + 1 + 1 = b5 at *
  generalize H.next + 1 + 1 + 1 = b4 at *
  generalize H.next + 1 + 1 = b3 at *
  generalize H.next + 1 = b2 at *
  generalize H.next = b1 at *
  have g2 := docIn (A := [Cel b5 [.int .i64 bit], Cel b4 [.int .i64 hh], Cel b3 [.int .i64 ww], Cel b2 [.int .i64 y], Cel b1 [.int .i64 x]]) g1
  refine draw_ct hb hp (er := fun r => fillR ww hh bit) (px := fun r => fillQ r.p x y ww hh bit) g2 hl (fun i hi A H' Q' h' hQ' => ?_) (fun r k => by unfold fillQ; rw [if_neg k]) (fun k H' h' => ?_) (fun i hi e k H' h' => ?_) (fun i hi e k cb cd cp v vs' H' h' => ?_)
  · refine call_of hp.h_doc_Doc_Fill_1 rfl ?_
    have r1 := rd_s (h'.celm (b := b1) (l := [.int .i64 x]) (docT (by simp)))
    have r2 := rd_s (h'.celm (b := b2) (l := [.int .i64 y]) (docT (by simp)))
    have r3 := rd_s (h'.celm (b := b3) (l := [.int .i64 ww]) (docT (by simp)))
    have r4 := rd_s (h'.celm (b := b4) (l := [.int .i64 hh]) (docT (by simp)))
    have r5 := rd_s (h'.celm (b := b5) (l := [.int .i64 bit]) (docT (by simp)))
    simp -implicitDefEqProofs -dsimp (disch := omega) only [go_sem, Nat.reduceEqDiff, ↓reduceIte, Nat.reduceAdd, Nat.reduceMul, Nat.reduceSub, Nat.reduceLT, Nat.reduceLeDiff, Int.reduceLT, Int.reduceLE, Int.reduceEq, Int.reduceNeg, Int.reduceAdd, Int.reduceMul, Int.reduceSub, Int.reduceToNat, reduceCtorEq, dec_t, dec_f, r1, r2, r3, r4, r5]
    refine fillAt hb hi hx hy hw hh' h' fun H'' h'' => ?_
    simp -implicitDefEqProofs -dsimp (disch := omega) only [go_sem, Nat.reduceEqDiff, ↓reduceIte, Nat.reduceAdd, Nat.reduceMul, Nat.reduceSub, Nat.reduceLT, Nat.reduceLeDiff, Int.reduceLT, Int.reduceLE, Int.reduceEq, Int.reduceNeg, Int.reduceAdd, Int.reduceMul, Int.reduceSub, Int.reduceToNat, reduceCtorEq, dec_t, dec_f, ]
    exact hQ' H'' h''
  · simp -implicitDefEqProofs -dsimp (disch := omega) only [go_sem, Nat.reduceEqDiff, ↓reduceIte, Nat.reduceAdd, Nat.reduceMul, Nat.reduceSub, Nat.reduceLT, Nat.reduceLeDiff, Int.reduceLT, Int.reduceLE, Int.reduceEq, Int.reduceNeg, Int.reduceAdd, Int.reduceMul, Int.reduceSub, Int.reduceToNat, reduceCtorEq, dec_t, dec_f, ]
    exact h1 k H' (docOut h').tail.tail.tail.tail.tail
  · simp -implicitDefEqProofs -dsimp (disch := omega) only [go_sem, Nat.reduceEqDiff, ↓reduceIte, Nat.reduceAdd, Nat.reduceMul, Nat.reduceSub, Nat.reduceLT, Nat.reduceLeDiff, Int.reduceLT, Int.reduceLE, Int.reduceEq, Int.reduceNeg, Int.reduceAdd, Int.reduceMul, Int.reduceSub, Int.reduceToNat, reduceCtorEq, dec_t, dec_f, ]
    exact h2 i hi e k H' (docOut h').tail.tail.tail.tail.tail
  · simp -implicitDefEqProofs -dsimp (disch := omega) only [go_sem, Nat.reduceEqDiff, ↓reduceIte, Nat.reduceAdd, Nat.reduceMul, Nat.reduceSub, Nat.reduceLT, Nat.reduceLeDiff, Int.reduceLT, Int.reduceLE, Int.reduceEq, Int.reduceNeg, Int.reduceAdd, Int.reduceMul, Int.reduceSub, Int.reduceToNat, reduceCtorEq, dec_t, dec_f, ]
    exact h3 i hi e k cb cd cp v vs' H' (docOut h').tail.tail.tail.tail.tail
theorem blitAt (hb : HasBm P) {i j : Nat} (hi : i < PL.length) (hj : j < PL.length) {sx sy ww hh dx dy op : Int} (k1 : i64r sx) (k2 : i64r sy) (k3 : i64r ww) (k4 : i64r hh) (k5 : i64r dx) (k6 : i64r dy) (k7 : i64r op) (hs : Hs H (DocL d vp vs PL SL T))
    (hQ : ∀ H', Hs H' (DocL d vp vs (PL.set i ⟨PL[i].m, PL[i].w, PL[i].h, blitQ PL[i].p PL[j].p PL[j].w PL[j].h sx sy ww hh dx dy op⟩) SL T) → Q (.ret (.int .i64 (blitR ww hh op))) H') :
    Call P 64 [.ptr (some (PL[i].m, 0)), .ptr (some (PL[j].m, 0)), .int .i64 sx, .int .i64 sy, .int .i64 ww, .int .i64 hh, .int .i64 dx, .int .i64 dy, .int .i64 op] H Q := by
  have em := docM (d := d) (vp := vp) (vs := vs) (SL := SL) (T := T) hi
  have em2 := docM (d := d) (vp := vp) (vs := vs) (SL := SL) (T := T) hj
  by_cases e : i = j
  · subst e
    refine blit_self hb (Hs.foc (3 + i) hs em) k1 k2 k3 k4 k5 k6 k7 fun H' h' => hQ H' ?_
    have h2 := Hs.unf em h'
    rw [← docM_set hi ⟨PL[i].m, PL[i].w, PL[i].h, blitQ PL[i].p PL[i].p PL[i].w PL[i].h sx sy ww hh dx dy op⟩ rfl]
    exact h2
  · refine blit_at hb (3 + i) (3 + j) hs em em2 (by omega) k1 k2 k3 k4 k5 k6 k7 fun H' h' => hQ H' ?_
    rw [← docM_set hi ⟨PL[i].m, PL[i].w, PL[i].h, blitQ PL[i].p PL[j].p PL[j].w PL[j].h sx sy ww hh dx dy op⟩ rfl]
    exact h'
end
end Go.Ab
