/- The law BitmapSizes. Conditions: none. -/
import Derived.Test.YtdkgdneiilnppaaCs
import Derived.Test.YtdkgdneiilnppaaBy
set_option linter.all false
namespace Go.Ab

def BsI (H : Heap) (p : Nat) (v1 v2 : V) (n1 n2 : Nat) (k : Nat) (fr : Fr) (H' : Heap) : Prop :=
  ∃ i : Nat, k = n1 - i ∧ i ≤ n1 ∧ i ≤ n2 ∧ i ≤ 12 ∧ fr = ⟨[(1, .ptr (some (p, 0))), (3, .int .i64 i)], []⟩ ∧ Hs H' [Cel p [v1, v2], Bas H]

theorem cnt2_one {w h x y : Nat} (hx : x < w) (hy : y < h) : cnt2 w (updP (fun _ _ => false) x y true) h = 1 := by
  have h0 : ∀ n, cntF (fun _ => false) n = 0 := fun n => by
    induction n with
    | zero => rfl
    | succ n ih => rw [cntF, ih]; rfl
  have h1 : ∀ n, cntF (fun i => updP (fun _ _ => false) x y true i y) n = if x < n then 1 else 0 := fun n => by
    induction n with
    | zero => rfl
    | succ n ih =>
      rw [cntF, ih]
      unfold updP
      by_cases c : x < n
      · rw [if_pos c, if_neg (by omega), if_pos (by omega)]; rfl
      · by_cases d : x = n
        · rw [if_neg c, if_pos ⟨d.symm, rfl⟩, if_pos (by omega)]; rfl
        · rw [if_neg c, if_neg (by omega), if_neg (by omega)]; rfl
  have h2 : ∀ j, j ≠ y → cntF (fun i => updP (fun _ _ => false) x y true i j) w = 0 := fun j hj => by
    rw [cntF_congr (g := fun _ => false) fun i _ => by unfold updP; rw [if_neg (fun e => hj e.2)]]; exact h0 w
  have h3 : ∀ n, sumN (fun j => cntF (fun i => updP (fun _ _ => false) x y true i j) w) n = if y < n then 1 else 0 := fun n => by
    induction n with
    | zero => rfl
    | succ n ih =>
      rw [sumN, ih]
      by_cases d : y = n
      · subst d; rw [if_neg (by omega), h1, if_pos hx, if_pos (by omega)]
      · rw [h2 n (fun e => d e.symm)]
        by_cases c : y < n
        · rw [if_pos c, if_pos (by omega)]
        · rw [if_neg c, if_neg (by omega)]
  unfold cnt2; rw [h3, if_pos hy]
theorem cnt2_none (w h : Nat) : cnt2 w (fun _ _ => false) h = 0 := by
  have h0 : ∀ n, cntF (fun _ => false) n = 0 := fun n => by
    induction n with
    | zero => rfl
    | succ n ih => rw [cntF, ih]; rfl
  unfold cnt2
  induction h with
  | zero => rfl
  | succ n ih => rw [sumN, ih, h0]

theorem bitmapSizes {P : Prog} (hq : HasL2 P) {H : Heap} {v1 v2 : V} {as bs : List Int} (hx : Arr H v1 1 as.length (as.map (V.int .i64))) (hy : Arr H v2 1 bs.length (bs.map (V.int .i64)))
    (ha : ∀ z ∈ as, i64r z) (hb : ∀ z ∈ bs, i64r z) (hl1 : as.length ≤ 140737488355328) (hl2 : bs.length ≤ 140737488355328) : Call P 104 [.agg [v1, v2]] H fun o _ => o = .ret (.bool true) := by
  obtain ⟨a1, c1, e1, rfl⟩ := hx.shape
  obtain ⟨a2, c2, e2, rfl⟩ := hy.shape
  refine call_of hq.law.h_burinlaw2_BitmapSizes rfl ?_
  have h1 := (Hs.start H).alloc (l := [.sl a1 as.length c1 e1, .sl a2 bs.length c2 e2])
  simp -implicitDefEqProofs -dsimp (disch := omega) only [go_sem, Nat.reduceEqDiff, ↓reduceIte, Nat.reduceAdd, Nat.reduceMul, Nat.reduceSub, Nat.reduceLT, Nat.reduceLeDiff, Int.reduceLT, Int.reduceLE, Int.reduceEq, Int.reduceNeg, Int.reduceAdd, Int.reduceMul, Int.reduceSub, Int.reduceToNat, reduceCtorEq, dec_t, dec_f, ]
  generalize H.new (.cells [.sl a1 as.length c1 e1, .sl a2 bs.length c2 e2] true) = H1 at h1
  generalize H.next = p at h1
  refine loop_inv (BsI H p _ _ as.length bs.length) ?_ as.length _ _ ⟨0, by omega, by omega, by omega, by omega, rfl, h1⟩
  rintro k fr H3 ⟨i, hk, hi1, hi2, hi3, rfl, h3⟩
  generalize hK : rnd (BsI H p _ _ as.length bs.length) k = K
  have hc := h3.cel
  have hex : ∀ fr, fr.ds = [] → wpC (Call P) (.seq (.reg false [2] [⟨some 116, .call (.f 99) [], none, 0, []⟩, ⟨some 2, .mv (.t 116), none, 0, []⟩]) .ret) (fin P true [.t 2] fun o _ => o = .ret (.bool true)) fr H3 := by
    rintro ⟨tm, ds⟩ rfl
    simp -implicitDefEqProofs -dsimp (disch := omega) only [go_sem, Nat.reduceEqDiff, ↓reduceIte, Nat.reduceAdd, Nat.reduceMul, Nat.reduceSub, Nat.reduceLT, Nat.reduceLeDiff, Int.reduceLT, Int.reduceLE, Int.reduceEq, Int.reduceNeg, Int.reduceAdd, Int.reduceMul, Int.reduceSub, Int.reduceToNat, reduceCtorEq, dec_t, dec_f, ]
    refine wakes_ct hq h3 fun H4 => ?_
    simp -implicitDefEqProofs -dsimp (disch := omega) only [go_sem, Nat.reduceEqDiff, ↓reduceIte, Nat.reduceAdd, Nat.reduceMul, Nat.reduceSub, Nat.reduceLT, Nat.reduceLeDiff, Int.reduceLT, Int.reduceLE, Int.reduceEq, Int.reduceNeg, Int.reduceAdd, Int.reduceMul, Int.reduceSub, Int.reduceToNat, reduceCtorEq, dec_t, dec_f, ]
  by_cases hin : i < as.length ∧ i < bs.length ∧ i < 12
  · obtain ⟨hin1, hin2, hin3⟩ := hin
    obtain ⟨b1, o1, c1', e⟩ := hx.at0 (by omega)
    cases e
    obtain ⟨b2, o2, c2', e⟩ := hy.at0 (by omega)
    cases e
    have r1 := (hx.same h3.p1.base fun _ _ h => h).rd1 hin1
    have r2 := (hy.same h3.p1.base fun _ _ h => h).rd1 hin2
    rw [List.getElem?_map, List.getElem?_eq_getElem hin1, Option.map_some] at r1
    rw [List.getElem?_map, List.getElem?_eq_getElem hin2, Option.map_some] at r2
    have w1 := ha _ (List.getElem_mem hin1)
    have w2 := hb _ (List.getElem_mem hin2)
    generalize as[i] = w at r1 w1
    generalize bs[i] = h at r2 w2
    have w1' := w1
    have w2' := w2
    unfold i64r at w1' w2'
    simp -implicitDefEqProofs -dsimp (disch := omega) only [go_sem, Nat.reduceEqDiff, ↓reduceIte, Nat.reduceAdd, Nat.reduceMul, Nat.reduceSub, Nat.reduceLT, Nat.reduceLeDiff, Int.reduceLT, Int.reduceLE, Int.reduceEq, Int.reduceNeg, Int.reduceAdd, Int.reduceMul, Int.reduceSub, Int.reduceToNat, reduceCtorEq, dec_t, dec_f, burinlaw2_BitmapSizes_l0, rd_s hc, Int.toNat_natCast, Nat.mul_one, r1, r2]
    refine new_ct hq.bm h3 w1' w2' (fun k => ?_) fun k m H4 h4 _ => ?_
    · simp -implicitDefEqProofs -dsimp (disch := omega) only [go_sem, Nat.reduceEqDiff, ↓reduceIte, Nat.reduceAdd, Nat.reduceMul, Nat.reduceSub, Nat.reduceLT, Nat.reduceLeDiff, Int.reduceLT, Int.reduceLE, Int.reduceEq, Int.reduceNeg, Int.reduceAdd, Int.reduceMul, Int.reduceSub, Int.reduceToNat, reduceCtorEq, dec_t, dec_f, ]
      refine sizeR_ct hq.rz w1 w2 ?_
      rw [decide_eq_false k]
      simp -implicitDefEqProofs -dsimp (disch := omega) only [go_sem, Nat.reduceEqDiff, ↓reduceIte, Nat.reduceAdd, Nat.reduceMul, Nat.reduceSub, Nat.reduceLT, Nat.reduceLeDiff, Int.reduceLT, Int.reduceLE, Int.reduceEq, Int.reduceNeg, Int.reduceAdd, Int.reduceMul, Int.reduceSub, Int.reduceToNat, reduceCtorEq, dec_t, dec_f, w64, cadd1]
      subst hK
      exact rnd_n (as.length - (i + 1)) (by omega) ⟨i + 1, rfl, by omega, by omega, by omega, rfl, h3⟩
    · simp -implicitDefEqProofs -dsimp (disch := omega) only [go_sem, Nat.reduceEqDiff, ↓reduceIte, Nat.reduceAdd, Nat.reduceMul, Nat.reduceSub, Nat.reduceLT, Nat.reduceLeDiff, Int.reduceLT, Int.reduceLE, Int.reduceEq, Int.reduceNeg, Int.reduceAdd, Int.reduceMul, Int.reduceSub, Int.reduceToNat, reduceCtorEq, dec_t, dec_f, ]
      refine sizeR_ct hq.rz w1 w2 ?_
      rw [decide_eq_true k]
      have hle := sizeOk_le k
      obtain ⟨wn, rfl⟩ : ∃ wn : Nat, w = wn := ⟨w.toNat, by have := k.1; omega⟩
      obtain ⟨hn, rfl⟩ : ∃ hn : Nat, h = hn := ⟨h.toNat, by have := k.2.1; omega⟩
      have k1 : 1 ≤ wn := by have := k.1; omega
      have k2 : 1 ≤ hn := by have := k.2.1; omega
      rw [Int.toNat_natCast, Int.toNat_natCast] at h4
      simp -implicitDefEqProofs -dsimp (disch := omega) only [go_sem, Nat.reduceEqDiff, ↓reduceIte, Nat.reduceAdd, Nat.reduceMul, Nat.reduceSub, Nat.reduceLT, Nat.reduceLeDiff, Int.reduceLT, Int.reduceLE, Int.reduceEq, Int.reduceNeg, Int.reduceAdd, Int.reduceMul, Int.reduceSub, Int.reduceToNat, reduceCtorEq, dec_t, dec_f, ]
      refine count_ct hq.bm h4 ?_
      rw [cnt2_none]
      simp -implicitDefEqProofs -dsimp (disch := omega) only [go_sem, Nat.reduceEqDiff, ↓reduceIte, Nat.reduceAdd, Nat.reduceMul, Nat.reduceSub, Nat.reduceLT, Nat.reduceLeDiff, Int.reduceLT, Int.reduceLE, Int.reduceEq, Int.reduceNeg, Int.reduceAdd, Int.reduceMul, Int.reduceSub, Int.reduceToNat, reduceCtorEq, dec_t, dec_f, w64]
      refine get_ct hq.bm h4 ?_
      rw [show getV wn hn (fun _ _ => false) ((wn : Int) - 1) ((hn : Int) - 1) = 0 by unfold getV; split <;> rfl]
      simp -implicitDefEqProofs -dsimp (disch := omega) only [go_sem, Nat.reduceEqDiff, ↓reduceIte, Nat.reduceAdd, Nat.reduceMul, Nat.reduceSub, Nat.reduceLT, Nat.reduceLeDiff, Int.reduceLT, Int.reduceLE, Int.reduceEq, Int.reduceNeg, Int.reduceAdd, Int.reduceMul, Int.reduceSub, Int.reduceToNat, reduceCtorEq, dec_t, dec_f, w64]
      refine set_ct hq.bm h4 fun H5 h5 => ?_
      have i1 : insideB wn hn ((wn : Int) - 1) ((hn : Int) - 1) := by unfold insideB; omega
      have i2 : ¬ insideB wn hn (wn : Int) ((hn : Int) - 1) := by unfold insideB; omega
      have i3 : ¬ insideB wn hn ((wn : Int) - 1) (hn : Int) := by unfold insideB; omega
      have t1 : ((wn : Int) - 1).toNat = wn - 1 := by omega
      have t2 : ((hn : Int) - 1).toNat = hn - 1 := by omega
      have p5 : setP wn hn (fun _ _ => false) ((wn : Int) - 1) ((hn : Int) - 1) 1 = updP (fun _ _ => false) (wn - 1) (hn - 1) true := by
        unfold setP; rw [if_pos ⟨i1, Or.inr rfl⟩, t1, t2]; rfl
      rw [p5] at h5
      rw [show setR wn hn ((wn : Int) - 1) ((hn : Int) - 1) 1 = 0 by unfold setR; rw [if_pos i1]; rfl]
      generalize hpp : updP (fun _ _ => false) (wn - 1) (hn - 1) true = pp at h5
      simp -implicitDefEqProofs -dsimp (disch := omega) only [go_sem, Nat.reduceEqDiff, ↓reduceIte, Nat.reduceAdd, Nat.reduceMul, Nat.reduceSub, Nat.reduceLT, Nat.reduceLeDiff, Int.reduceLT, Int.reduceLE, Int.reduceEq, Int.reduceNeg, Int.reduceAdd, Int.reduceMul, Int.reduceSub, Int.reduceToNat, reduceCtorEq, dec_t, dec_f, w64]
      refine set_ct hq.bm h5 fun H6 h6 => ?_
      rw [show setR wn hn (wn : Int) ((hn : Int) - 1) 1 = 22 by unfold setR; rw [if_neg i2]]
      rw [show setP wn hn pp (wn : Int) ((hn : Int) - 1) 1 = pp by unfold setP; rw [if_neg (fun e => i2 e.1)]] at h6
      simp -implicitDefEqProofs -dsimp (disch := omega) only [go_sem, Nat.reduceEqDiff, ↓reduceIte, Nat.reduceAdd, Nat.reduceMul, Nat.reduceSub, Nat.reduceLT, Nat.reduceLeDiff, Int.reduceLT, Int.reduceLE, Int.reduceEq, Int.reduceNeg, Int.reduceAdd, Int.reduceMul, Int.reduceSub, Int.reduceToNat, reduceCtorEq, dec_t, dec_f, w64]
      refine set_ct hq.bm h6 fun H7 h7 => ?_
      rw [show setR wn hn ((wn : Int) - 1) (hn : Int) 0 = 22 by unfold setR; rw [if_neg i3]]
      rw [show setP wn hn pp ((wn : Int) - 1) (hn : Int) 0 = pp by unfold setP; rw [if_neg (fun e => i3 e.1)]] at h7
      simp -implicitDefEqProofs -dsimp (disch := omega) only [go_sem, Nat.reduceEqDiff, ↓reduceIte, Nat.reduceAdd, Nat.reduceMul, Nat.reduceSub, Nat.reduceLT, Nat.reduceLeDiff, Int.reduceLT, Int.reduceLE, Int.reduceEq, Int.reduceNeg, Int.reduceAdd, Int.reduceMul, Int.reduceSub, Int.reduceToNat, reduceCtorEq, dec_t, dec_f, w64]
      refine count_ct hq.bm h7 ?_
      rw [show cnt2 wn pp hn = 1 by rw [← hpp]; exact cnt2_one (by omega) (by omega)]
      simp -implicitDefEqProofs -dsimp (disch := omega) only [go_sem, Nat.reduceEqDiff, ↓reduceIte, Nat.reduceAdd, Nat.reduceMul, Nat.reduceSub, Nat.reduceLT, Nat.reduceLeDiff, Int.reduceLT, Int.reduceLE, Int.reduceEq, Int.reduceNeg, Int.reduceAdd, Int.reduceMul, Int.reduceSub, Int.reduceToNat, reduceCtorEq, dec_t, dec_f, w64]
      refine get_ct hq.bm h7 ?_
      rw [show getV wn hn pp ((wn : Int) - 1) ((hn : Int) - 1) = 1 by
        unfold getV; rw [if_pos (by omega), t1, t2, ← hpp]; unfold updP; rw [if_pos ⟨rfl, rfl⟩]; rfl]
      simp -implicitDefEqProofs -dsimp (disch := omega) only [go_sem, Nat.reduceEqDiff, ↓reduceIte, Nat.reduceAdd, Nat.reduceMul, Nat.reduceSub, Nat.reduceLT, Nat.reduceLeDiff, Int.reduceLT, Int.reduceLE, Int.reduceEq, Int.reduceNeg, Int.reduceAdd, Int.reduceMul, Int.reduceSub, Int.reduceToNat, reduceCtorEq, dec_t, dec_f, w64]
      refine get_ct hq.bm h7 ?_
      rw [show getV wn hn pp (-1) 0 = 0 by unfold getV; rw [if_neg (by omega)]]
      simp -implicitDefEqProofs -dsimp (disch := omega) only [go_sem, Nat.reduceEqDiff, ↓reduceIte, Nat.reduceAdd, Nat.reduceMul, Nat.reduceSub, Nat.reduceLT, Nat.reduceLeDiff, Int.reduceLT, Int.reduceLE, Int.reduceEq, Int.reduceNeg, Int.reduceAdd, Int.reduceMul, Int.reduceSub, Int.reduceToNat, reduceCtorEq, dec_t, dec_f, w64, cadd1]
      subst hK
      exact rnd_n (as.length - (i + 1)) (by omega) ⟨i + 1, rfl, by omega, by omega, by omega, rfl, h7.tail⟩
  · rcases (show as.length ≤ i ∨ (i < as.length ∧ bs.length ≤ i) ∨ (i < as.length ∧ i < bs.length ∧ 12 ≤ i) by omega) with d | d | d <;>
    · simp -implicitDefEqProofs -dsimp (disch := omega) only [go_sem, Nat.reduceEqDiff, ↓reduceIte, Nat.reduceAdd, Nat.reduceMul, Nat.reduceSub, Nat.reduceLT, Nat.reduceLeDiff, Int.reduceLT, Int.reduceLE, Int.reduceEq, Int.reduceNeg, Int.reduceAdd, Int.reduceMul, Int.reduceSub, Int.reduceToNat, reduceCtorEq, dec_t, dec_f, burinlaw2_BitmapSizes_l0, rd_s hc]
      subst hK
      exact hex _ rfl
theorem law_BitmapSizes {P : Prog} (hp : HasL2 P) (H : Heap) (cs : List V) (x : TD.Ty (.agg [.sl 8 (.int .i64), .sl 8 (.int .i64)])) (h : Is H (.agg [.sl 8 (.int .i64), .sl 8 (.int .i64)]) cs x) : Call P 104 [argV (.agg [.sl 8 (.int .i64), .sl 8 (.int .i64)]) cs] H fun o _ => o = .ret (.bool true) := by
  obtain ⟨a, r, e, h1, a2, r2, e2, h2, h3⟩ := h
  obtain ⟨v1, k1, k2, k3, k4⟩ := Is.ints h1
  obtain ⟨v2, l1, l2, l3, l4⟩ := Is.ints h2
  have ek : ∀ z : Int, inK .i64 z → i64r z := fun z hz => hz
  have := bitmapSizes hp k2 l2 (fun z hz => ek z (k3 z hz)) (fun z hz => ek z (l3 z hz)) (by omega) (by omega)
  rw [show cs = [v1, v2] by rw [e, e2, k1, l1, show r2 = [] from h3]; rfl]
  exact this
end Go.Ab
