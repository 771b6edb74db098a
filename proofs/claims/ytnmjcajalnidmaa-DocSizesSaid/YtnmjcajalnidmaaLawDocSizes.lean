/- The law DocSizes. Conditions: none. -/
import Derived.Test.YtnmjcajalnidmaaVf
import Derived.Test.YtnmjcajalnidmaaPL20Sizes
set_option linter.all false
namespace Go.Ab
structure HasL20 (P : Prog) : Prop where
  bm : HasBm P
  rz : HasRz P
  doc : HasDoc P
structure DsS where
  i : Nat
  area : Int
  PL : List MR
  SL : List St
  vp : V
  vs : V
def DsS.fr (p d : Nat) (x : DsS) : Fr := ⟨[(1, .ptr (some (p, 0))), (3, .ptr (some (d, 0))), (4, .int .i64 x.PL.length), (5, .int .i64 x.area), (6, .int .i64 (x.i : Nat))], []⟩
structure DsS.ok (d n1 n2 : Nat) (T : List As) (x : DsS) (H : Heap) : Prop where
  i1 : x.i ≤ n1
  i2 : x.i ≤ n2
  a0 : 0 ≤ x.area
  a1 : x.area ≤ 4194304
  pl : x.PL.length ≤ 64
  sl : x.SL.length ≤ 64
  hs : Hs H (DocL d x.vp x.vs x.PL x.SL T)
set_option maxHeartbeats 1000000 in
theorem docSizes {P : Prog} (hq : HasL20 P) (hg : P 147 = some burinlaw20_DocSizes) {H : Heap} {v1 v2 : V} {as bs : List Int} (hx : Arr H v1 1 as.length (as.map (V.int .i64))) (hy : Arr H v2 1 bs.length (bs.map (V.int .i64)))
    (ha : ∀ z ∈ as, i64r z) (hb : ∀ z ∈ bs, i64r z) (hl1 : as.length ≤ 140737488355328) (hl2 : bs.length ≤ 140737488355328) : Call P 147 [.agg [v1, v2]] H fun o _ => o = .ret (.bool true) := by
  obtain ⟨a1, c1, e1, rfl⟩ := hx.shape
  obtain ⟨a2, c2, e2, rfl⟩ := hy.shape
  refine call_of hg rfl ?_
  have h1 := (Hs.start H).alloc (l := [.sl a1 as.length c1 e1, .sl a2 bs.length c2 e2])
  simp -implicitDefEqProofs -dsimp (disch := omega) only [go_sem, Nat.reduceEqDiff, ↓reduceIte, Nat.reduceAdd, Nat.reduceMul, Nat.reduceSub, Nat.reduceLT, Nat.reduceLeDiff, Int.reduceLT, Int.reduceLE, Int.reduceEq, Int.reduceNeg, Int.reduceAdd, Int.reduceMul, Int.reduceSub, Int.reduceToNat, reduceCtorEq, dec_t, dec_f, ]
  generalize H.new _ = H1 at *
  generalize H.next = p at *
  refine docNew_ct hq.doc h1 fun d H2 h2 => ?_
  simp -implicitDefEqProofs -dsimp (disch := omega) only [go_sem, Nat.reduceEqDiff, ↓reduceIte, Nat.reduceAdd, Nat.reduceMul, Nat.reduceSub, Nat.reduceLT, Nat.reduceLeDiff, Int.reduceLT, Int.reduceLE, Int.reduceEq, Int.reduceNeg, Int.reduceAdd, Int.reduceMul, Int.reduceSub, Int.reduceToNat, reduceCtorEq, dec_t, dec_f, List.length_nil]
  refine loop_dec (σ := DsS) (fun x => as.length - x.i) (DsS.fr p d) (DsS.ok d as.length bs.length _) (fun x H3 K ok hn hxx hrr => ?_) ⟨0, 0, [], [], .sl none 0 0 0, .sl none 0 0 0⟩ H2 ⟨by simp, by simp, by simp, by simp, by simp, by simp, h2⟩
  obtain ⟨i, area, PL, SL, vp, vs⟩ := x
  obtain ⟨hi1, hi2, ar0, ar1, hpl, hsl, h3⟩ := ok
  dsimp only at hi1 hi2 ar0 ar1 hpl hsl h3 hn
  have mp : Cel p [.sl a1 as.length c1 e1, .sl a2 bs.length c2 e2] ∈ DocL d vp vs PL SL [Cel p [.sl a1 as.length c1 e1, .sl a2 bs.length c2 e2], Bas H] := docT (by simp)
  have mb : Bas H ∈ DocL d vp vs PL SL [Cel p [.sl a1 as.length c1 e1, .sl a2 bs.length c2 e2], Bas H] := docT (by simp)
  have hc := rd_s (h3.celm mp)
  by_cases hin : i < as.length ∧ i < bs.length ∧ i < 100
  · obtain ⟨hin1, hin2, hin3⟩ := hin
    obtain ⟨b1, o1, c1', e⟩ := hx.at0 (by omega)
    cases e
    obtain ⟨b2, o2, c2', e⟩ := hy.at0 (by omega)
    cases e
    have r1 := (hx.same (h3.bas mb) fun _ _ h => h).rd1 hin1
    have r2 := (hy.same (h3.bas mb) fun _ _ h => h).rd1 hin2
    rw [List.getElem?_map, List.getElem?_eq_getElem hin1, Option.map_some] at r1
    rw [List.getElem?_map, List.getElem?_eq_getElem hin2, Option.map_some] at r2
    have w1 := ha _ (List.getElem_mem hin1)
    have w2 := hb _ (List.getElem_mem hin2)
    generalize as[i] = w at r1 w1
    generalize bs[i] = h at r2 w2
    have w1' := w1
    have w2' := w2
    unfold i64r at w1' w2'
    have nxt := fun area' PL' SL' vp' vs' H' (k1 : 0 ≤ area') (k2 : area' ≤ 4194304) (k3 : List.length PL' ≤ 64) (k4 : List.length SL' ≤ 64) h' => hn ⟨i + 1, area', PL', SL', vp', vs'⟩ H' (by dsimp only; omega) ⟨by dsimp only; omega, by dsimp only; omega, k1, k2, k3, k4, h'⟩
    unfold DsS.fr at nxt
    dsimp only at nxt
    simp -implicitDefEqProofs -dsimp (disch := omega) only [go_sem, Nat.reduceEqDiff, ↓reduceIte, Nat.reduceAdd, Nat.reduceMul, Nat.reduceSub, Nat.reduceLT, Nat.reduceLeDiff, Int.reduceLT, Int.reduceLE, Int.reduceEq, Int.reduceNeg, Int.reduceAdd, Int.reduceMul, Int.reduceSub, Int.reduceToNat, reduceCtorEq, dec_t, dec_f, burinlaw20_DocSizes_l0, DsS.fr, hc, Int.toNat_natCast, Nat.mul_one, r1, r2]
    refine sizeR_ct hq.rz w1 w2 ?_
    by_cases k : sizeOk w h
    · have hle := sizeOk_le k
      have hk := k
      obtain ⟨k1, k2, k3⟩ := hk
      have k4 : 0 ≤ w * h := Int.mul_nonneg (by omega) (by omega)
      rw [decide_eq_true k]
      by_cases hbig : 4194304 < area + w * h + 64 * h
      · simp -implicitDefEqProofs -dsimp (disch := omega) only [go_sem, Nat.reduceEqDiff, ↓reduceIte, Nat.reduceAdd, Nat.reduceMul, Nat.reduceSub, Nat.reduceLT, Nat.reduceLeDiff, Int.reduceLT, Int.reduceLE, Int.reduceEq, Int.reduceNeg, Int.reduceAdd, Int.reduceMul, Int.reduceSub, Int.reduceToNat, reduceCtorEq, dec_t, dec_f, w64]
        rw [hxx]
        simp -implicitDefEqProofs -dsimp (disch := omega) only [go_sem, Nat.reduceEqDiff, ↓reduceIte, Nat.reduceAdd, Nat.reduceMul, Nat.reduceSub, Nat.reduceLT, Nat.reduceLeDiff, Int.reduceLT, Int.reduceLE, Int.reduceEq, Int.reduceNeg, Int.reduceAdd, Int.reduceMul, Int.reduceSub, Int.reduceToNat, reduceCtorEq, dec_t, dec_f, ]
        refine wakes20_ct hq.bm hq.rz hq.doc h3 fun H4 _ => ?_
        simp -implicitDefEqProofs -dsimp (disch := omega) only [go_sem, Nat.reduceEqDiff, ↓reduceIte, Nat.reduceAdd, Nat.reduceMul, Nat.reduceSub, Nat.reduceLT, Nat.reduceLeDiff, Int.reduceLT, Int.reduceLE, Int.reduceEq, Int.reduceNeg, Int.reduceAdd, Int.reduceMul, Int.reduceSub, Int.reduceToNat, reduceCtorEq, dec_t, dec_f, ]
      · simp -implicitDefEqProofs -dsimp (disch := omega) only [go_sem, Nat.reduceEqDiff, ↓reduceIte, Nat.reduceAdd, Nat.reduceMul, Nat.reduceSub, Nat.reduceLT, Nat.reduceLeDiff, Int.reduceLT, Int.reduceLE, Int.reduceEq, Int.reduceNeg, Int.reduceAdd, Int.reduceMul, Int.reduceSub, Int.reduceToNat, reduceCtorEq, dec_t, dec_f, w64]
        refine newPage_ct hq.bm hq.doc h3 w1 w2 hsl hpl (fun k' => absurd k k') (fun _ k64 H4 h4 => ?_) fun _ k64 vp' vs' m cd cn H4 h4 => ?_
        · simp -implicitDefEqProofs -dsimp (disch := omega) only [go_sem, Nat.reduceEqDiff, ↓reduceIte, Nat.reduceAdd, Nat.reduceMul, Nat.reduceSub, Nat.reduceLT, Nat.reduceLeDiff, Int.reduceLT, Int.reduceLE, Int.reduceEq, Int.reduceNeg, Int.reduceAdd, Int.reduceMul, Int.reduceSub, Int.reduceToNat, reduceCtorEq, dec_t, dec_f, w64]
          refine pages_ct hq.doc h4 ?_
          simp -implicitDefEqProofs -dsimp (disch := omega) only [go_sem, Nat.reduceEqDiff, ↓reduceIte, Nat.reduceAdd, Nat.reduceMul, Nat.reduceSub, Nat.reduceLT, Nat.reduceLeDiff, Int.reduceLT, Int.reduceLE, Int.reduceEq, Int.reduceNeg, Int.reduceAdd, Int.reduceMul, Int.reduceSub, Int.reduceToNat, reduceCtorEq, dec_t, dec_f, w64, cadd1]
          exact nxt _ PL SL vp vs H4 (by omega) (by omega) hpl hsl h4
        · simp -implicitDefEqProofs -dsimp (disch := omega) only [go_sem, Nat.reduceEqDiff, ↓reduceIte, Nat.reduceAdd, Nat.reduceMul, Nat.reduceSub, Nat.reduceLT, Nat.reduceLeDiff, Int.reduceLT, Int.reduceLE, Int.reduceEq, Int.reduceNeg, Int.reduceAdd, Int.reduceMul, Int.reduceSub, Int.reduceToNat, reduceCtorEq, dec_t, dec_f, w64]
          refine pages_ct hq.doc h4 ?_
          have el : (PL ++ [(⟨m, w.toNat, h.toNat, fun _ _ => false⟩ : MR)]).length = PL.length + 1 := by simp
          simp -implicitDefEqProofs -dsimp (disch := omega) only [go_sem, Nat.reduceEqDiff, ↓reduceIte, Nat.reduceAdd, Nat.reduceMul, Nat.reduceSub, Nat.reduceLT, Nat.reduceLeDiff, Int.reduceLT, Int.reduceLE, Int.reduceEq, Int.reduceNeg, Int.reduceAdd, Int.reduceMul, Int.reduceSub, Int.reduceToNat, reduceCtorEq, dec_t, dec_f, w64, cadd1, el]
          have := nxt (area + w * h + 64 * h) _ _ vp' vs' H4 (by omega) (by omega) (by rw [el]; omega) (push_len hsl) h4
          rw [el] at this
          exact this
    · rw [decide_eq_false k]
      simp -implicitDefEqProofs -dsimp (disch := omega) only [go_sem, Nat.reduceEqDiff, ↓reduceIte, Nat.reduceAdd, Nat.reduceMul, Nat.reduceSub, Nat.reduceLT, Nat.reduceLeDiff, Int.reduceLT, Int.reduceLE, Int.reduceEq, Int.reduceNeg, Int.reduceAdd, Int.reduceMul, Int.reduceSub, Int.reduceToNat, reduceCtorEq, dec_t, dec_f, ]
      refine newPage_ct hq.bm hq.doc h3 w1 w2 hsl hpl (fun _ H4 h4 => ?_) (fun k' => absurd k' k) fun k' => absurd k' k
      have nx := nxt area PL SL vp vs H4 ar0 ar1 hpl hsl h4
      unfold sizeOk at k
      rcases (show w < 1 ∨ (1 ≤ w ∧ h < 1) ∨ (1 ≤ w ∧ 1 ≤ h ∧ 1048576 < w) ∨ (1 ≤ w ∧ 1 ≤ h ∧ w ≤ 1048576 ∧ 1048576 < h) ∨ (1 ≤ w ∧ 1 ≤ h ∧ w ≤ 1048576 ∧ h ≤ 1048576 ∧ 1048576 < w * h) by omega) with q | q | q | q | q
      · simp -implicitDefEqProofs -dsimp (disch := omega) only [go_sem, Nat.reduceEqDiff, ↓reduceIte, Nat.reduceAdd, Nat.reduceMul, Nat.reduceSub, Nat.reduceLT, Nat.reduceLeDiff, Int.reduceLT, Int.reduceLE, Int.reduceEq, Int.reduceNeg, Int.reduceAdd, Int.reduceMul, Int.reduceSub, Int.reduceToNat, reduceCtorEq, dec_t, dec_f, w64]
        refine pages_ct hq.doc h4 ?_
        simp -implicitDefEqProofs -dsimp (disch := omega) only [go_sem, Nat.reduceEqDiff, ↓reduceIte, Nat.reduceAdd, Nat.reduceMul, Nat.reduceSub, Nat.reduceLT, Nat.reduceLeDiff, Int.reduceLT, Int.reduceLE, Int.reduceEq, Int.reduceNeg, Int.reduceAdd, Int.reduceMul, Int.reduceSub, Int.reduceToNat, reduceCtorEq, dec_t, dec_f, w64, cadd1]
        exact nx
      · simp -implicitDefEqProofs -dsimp (disch := omega) only [go_sem, Nat.reduceEqDiff, ↓reduceIte, Nat.reduceAdd, Nat.reduceMul, Nat.reduceSub, Nat.reduceLT, Nat.reduceLeDiff, Int.reduceLT, Int.reduceLE, Int.reduceEq, Int.reduceNeg, Int.reduceAdd, Int.reduceMul, Int.reduceSub, Int.reduceToNat, reduceCtorEq, dec_t, dec_f, w64]
        refine pages_ct hq.doc h4 ?_
        simp -implicitDefEqProofs -dsimp (disch := omega) only [go_sem, Nat.reduceEqDiff, ↓reduceIte, Nat.reduceAdd, Nat.reduceMul, Nat.reduceSub, Nat.reduceLT, Nat.reduceLeDiff, Int.reduceLT, Int.reduceLE, Int.reduceEq, Int.reduceNeg, Int.reduceAdd, Int.reduceMul, Int.reduceSub, Int.reduceToNat, reduceCtorEq, dec_t, dec_f, w64, cadd1]
        exact nx
      · simp -implicitDefEqProofs -dsimp (disch := omega) only [go_sem, Nat.reduceEqDiff, ↓reduceIte, Nat.reduceAdd, Nat.reduceMul, Nat.reduceSub, Nat.reduceLT, Nat.reduceLeDiff, Int.reduceLT, Int.reduceLE, Int.reduceEq, Int.reduceNeg, Int.reduceAdd, Int.reduceMul, Int.reduceSub, Int.reduceToNat, reduceCtorEq, dec_t, dec_f, w64]
        refine pages_ct hq.doc h4 ?_
        simp -implicitDefEqProofs -dsimp (disch := omega) only [go_sem, Nat.reduceEqDiff, ↓reduceIte, Nat.reduceAdd, Nat.reduceMul, Nat.reduceSub, Nat.reduceLT, Nat.reduceLeDiff, Int.reduceLT, Int.reduceLE, Int.reduceEq, Int.reduceNeg, Int.reduceAdd, Int.reduceMul, Int.reduceSub, Int.reduceToNat, reduceCtorEq, dec_t, dec_f, w64, cadd1]
        exact nx
      · simp -implicitDefEqProofs -dsimp (disch := omega) only [go_sem, Nat.reduceEqDiff, ↓reduceIte, Nat.reduceAdd, Nat.reduceMul, Nat.reduceSub, Nat.reduceLT, Nat.reduceLeDiff, Int.reduceLT, Int.reduceLE, Int.reduceEq, Int.reduceNeg, Int.reduceAdd, Int.reduceMul, Int.reduceSub, Int.reduceToNat, reduceCtorEq, dec_t, dec_f, w64]
        refine pages_ct hq.doc h4 ?_
        simp -implicitDefEqProofs -dsimp (disch := omega) only [go_sem, Nat.reduceEqDiff, ↓reduceIte, Nat.reduceAdd, Nat.reduceMul, Nat.reduceSub, Nat.reduceLT, Nat.reduceLeDiff, Int.reduceLT, Int.reduceLE, Int.reduceEq, Int.reduceNeg, Int.reduceAdd, Int.reduceMul, Int.reduceSub, Int.reduceToNat, reduceCtorEq, dec_t, dec_f, w64, cadd1]
        exact nx
      · obtain ⟨q1, q2, q3, q4, q5⟩ := q
        have k5 : w * h ≤ 1048576 * 1048576 := Int.mul_le_mul q3 q4 (by omega) (by omega)
        simp -implicitDefEqProofs -dsimp (disch := omega) only [go_sem, Nat.reduceEqDiff, ↓reduceIte, Nat.reduceAdd, Nat.reduceMul, Nat.reduceSub, Nat.reduceLT, Nat.reduceLeDiff, Int.reduceLT, Int.reduceLE, Int.reduceEq, Int.reduceNeg, Int.reduceAdd, Int.reduceMul, Int.reduceSub, Int.reduceToNat, reduceCtorEq, dec_t, dec_f, w64]
        refine pages_ct hq.doc h4 ?_
        simp -implicitDefEqProofs -dsimp (disch := omega) only [go_sem, Nat.reduceEqDiff, ↓reduceIte, Nat.reduceAdd, Nat.reduceMul, Nat.reduceSub, Nat.reduceLT, Nat.reduceLeDiff, Int.reduceLT, Int.reduceLE, Int.reduceEq, Int.reduceNeg, Int.reduceAdd, Int.reduceMul, Int.reduceSub, Int.reduceToNat, reduceCtorEq, dec_t, dec_f, w64, cadd1]
        exact nx
  · rcases (show as.length ≤ i ∨ (i < as.length ∧ bs.length ≤ i) ∨ (i < as.length ∧ i < bs.length ∧ 100 ≤ i) by omega) with q | q | q <;>
    · simp -implicitDefEqProofs -dsimp (disch := omega) only [go_sem, Nat.reduceEqDiff, ↓reduceIte, Nat.reduceAdd, Nat.reduceMul, Nat.reduceSub, Nat.reduceLT, Nat.reduceLeDiff, Int.reduceLT, Int.reduceLE, Int.reduceEq, Int.reduceNeg, Int.reduceAdd, Int.reduceMul, Int.reduceSub, Int.reduceToNat, reduceCtorEq, dec_t, dec_f, burinlaw20_DocSizes_l0, DsS.fr, hc]
      rw [hxx]
      simp -implicitDefEqProofs -dsimp (disch := omega) only [go_sem, Nat.reduceEqDiff, ↓reduceIte, Nat.reduceAdd, Nat.reduceMul, Nat.reduceSub, Nat.reduceLT, Nat.reduceLeDiff, Int.reduceLT, Int.reduceLE, Int.reduceEq, Int.reduceNeg, Int.reduceAdd, Int.reduceMul, Int.reduceSub, Int.reduceToNat, reduceCtorEq, dec_t, dec_f, ]
      refine wakes20_ct hq.bm hq.rz hq.doc h3 fun H4 _ => ?_
      simp -implicitDefEqProofs -dsimp (disch := omega) only [go_sem, Nat.reduceEqDiff, ↓reduceIte, Nat.reduceAdd, Nat.reduceMul, Nat.reduceSub, Nat.reduceLT, Nat.reduceLeDiff, Int.reduceLT, Int.reduceLE, Int.reduceEq, Int.reduceNeg, Int.reduceAdd, Int.reduceMul, Int.reduceSub, Int.reduceToNat, reduceCtorEq, dec_t, dec_f, ]
theorem law_DocSizes {P : Prog} (hp : HasL20 P) (hg : P 147 = some burinlaw20_DocSizes) (H : Heap) (cs : List V) (x : TD.Ty (.agg [.sl 8 (.int .i64), .sl 8 (.int .i64)])) (h : Is H (.agg [.sl 8 (.int .i64), .sl 8 (.int .i64)]) cs x) : Call P 147 [argV (.agg [.sl 8 (.int .i64), .sl 8 (.int .i64)]) cs] H fun o _ => o = .ret (.bool true) := by
  obtain ⟨a, r, e, h1, a2, r2, e2, h2, h3⟩ := h
  obtain ⟨v1, k1, k2, k3, k4⟩ := Is.ints h1
  obtain ⟨v2, l1, l2, l3, l4⟩ := Is.ints h2
  have ek : ∀ z : Int, inK .i64 z → i64r z := fun z hz => hz
  have := docSizes hp hg k2 l2 (fun z hz => ek z (k3 z hz)) (fun z hz => ek z (l3 z hz)) (by omega) (by omega)
  rw [show cs = [v1, v2] by rw [e, e2, k1, l1, show r2 = [] from h3]; rfl]
  exact this
end Go.Ab
