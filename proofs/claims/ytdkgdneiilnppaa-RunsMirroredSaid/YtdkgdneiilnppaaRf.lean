/- Rows of runs held against each other; the reference's Touch and Back. Conditions: none. -/
import Derived.Test.YtdkgdneiilnppaaRe
set_option linter.all false
namespace Go.Ab
theorem rrd_at {H : Heap} {v : V} {rows : List (List (Int × Int))} {vals : List V} (h : Arr H v 1 rows.length vals ∧ ∀ (i : Nat) (l : List (Int × Int)), rows[i]? = some l → ∃ x, vals[i]? = some x ∧ Arr H x 2 l.length (rcells l)) {i : Nat} (hi : i < rows.length) {b o c : Nat} (hv : v = .sl (some (b, o)) rows.length c 1) :
    ∃ a c' e, vals[i]? = some (.sl a rows[i].length c' e) ∧ rd H none b (o + i) = some (.sl a rows[i].length c' e) ∧ Arr H (.sl a rows[i].length c' e) 2 rows[i].length (rcells rows[i]) := by
  obtain ⟨x, h1, h2⟩ := h.2 i rows[i] (by simp [hi])
  obtain ⟨a, c', e, rfl⟩ := h2.shape
  refine ⟨a, c', e, h1, ?_, h2⟩
  have k := h.1
  rw [hv] at k
  rw [k.rd1 hi, h1]
section
variable {P : Prog} {H : Heap} {R : List As} {Q : Out → Heap → Prop}
theorem touchR_ct (hp : HasRf9 P) {a b : Int × Int} (hs : Hs H R) (hQ : ∀ H', Hs H' R → Q (.ret (.bool (decide (touchP a b)))) H') : Call P 120 [.agg [.int .i64 a.1, .int .i64 a.2], .agg [.int .i64 b.1, .int .i64 b.2]] H Q := by
  refine call_of hp.h_burinref9_Touch rfl ?_
  have g1 := (hs.alloc (l := [.int .i64 a.1, .int .i64 a.2])).alloc (l := [.int .i64 b.1, .int .i64 b.2])
  rw [next_new] at g1
  have hQ := hQ _ g1.tail.tail
  have c1 := rd_s g1.cel
  have c2 := rd_s g1.p1.cel
  by_cases k : touchP a b
  · rw [decide_eq_true k] at hQ
    obtain ⟨k1, k2, k3, k4⟩ := k
    simp -implicitDefEqProofs -dsimp (disch := omega) only [go_sem, Nat.reduceEqDiff, ↓reduceIte, Nat.reduceAdd, Nat.reduceMul, Nat.reduceSub, Nat.reduceLT, Nat.reduceLeDiff, Int.reduceLT, Int.reduceLE, Int.reduceEq, Int.reduceNeg, Int.reduceAdd, Int.reduceMul, Int.reduceSub, Int.reduceToNat, reduceCtorEq, dec_t, dec_f, c1, c2]
    exact hQ
  · rw [decide_eq_false k] at hQ
    unfold touchP at k
    rcases (show a.2 ≤ a.1 ∨ (a.1 < a.2 ∧ b.2 ≤ b.1) ∨ (a.1 < a.2 ∧ b.1 < b.2 ∧ b.2 < a.1) ∨ (a.1 < a.2 ∧ b.1 < b.2 ∧ a.1 ≤ b.2 ∧ a.2 < b.1) by omega) with d | d | d | d <;>
    · simp -implicitDefEqProofs -dsimp (disch := omega) only [go_sem, Nat.reduceEqDiff, ↓reduceIte, Nat.reduceAdd, Nat.reduceMul, Nat.reduceSub, Nat.reduceLT, Nat.reduceLeDiff, Int.reduceLT, Int.reduceLE, Int.reduceEq, Int.reduceNeg, Int.reduceAdd, Int.reduceMul, Int.reduceSub, Int.reduceToNat, reduceCtorEq, dec_t, dec_f, c1, c2]
      exact hQ
theorem eqruns_ct (hp : HasRf9 P) {x y : V} {A B : List (List (Int × Int))} (hs : Hs H R) (sa : RRd R x A) (sb : RRd R y B) (hla : A.length ≤ 281474976710656) (hlr : ∀ l ∈ A, l.length ≤ 281474976710656)
    (hQ : Q (.ret (.bool (decide (A = B)))) H) : Call P 121 [x, y] H Q := by
  obtain ⟨va, ha⟩ := sa
  obtain ⟨vb, hb⟩ := sb
  have ha := ha H hs
  have hb := hb H hs
  obtain ⟨a1, c1, e1, hx⟩ := ha.1.shape
  obtain ⟨a2, c2, e2, hy⟩ := hb.1.shape
  refine call_of hp.h_burinref0_EqRuns rfl ?_
  by_cases hl : A.length = B.length
  rotate_left
  · rw [decide_eq_false fun e => hl (by rw [e])] at hQ
    subst hx hy
    simp -implicitDefEqProofs -dsimp (disch := omega) only [go_sem, Nat.reduceEqDiff, ↓reduceIte, Nat.reduceAdd, Nat.reduceMul, Nat.reduceSub, Nat.reduceLT, Nat.reduceLeDiff, Int.reduceLT, Int.reduceLE, Int.reduceEq, Int.reduceNeg, Int.reduceAdd, Int.reduceMul, Int.reduceSub, Int.reduceToNat, reduceCtorEq, dec_t, dec_f, ]
    exact hQ
  have ex : ∀ l, l = [(0, x), (1, y)] → True := fun _ _ => trivial
  have start : wpC (Call P) (.seq (.seq (.reg false [0, 1, 5] [⟨some 5, .mv (.c (.int .i64 0)), none, 0, []⟩])
  (.block 0 (.loop [0, 1, 5] burinref0_EqRuns_l0)))
  (.seq (.reg false [4] [⟨some 4, .mv (.c (.bool true)), none, 0, []⟩])
  (.ret))) (fin P true [.t 4] Q) ⟨[(0, x), (1, y), (11, .bool false)], []⟩ H := by
    simp -implicitDefEqProofs -dsimp (disch := omega) only [go_sem, Nat.reduceEqDiff, ↓reduceIte, Nat.reduceAdd, Nat.reduceMul, Nat.reduceSub, Nat.reduceLT, Nat.reduceLeDiff, Int.reduceLT, Int.reduceLE, Int.reduceEq, Int.reduceNeg, Int.reduceAdd, Int.reduceMul, Int.reduceSub, Int.reduceToNat, reduceCtorEq, dec_t, dec_f, ]
    refine loop_cnt A.length (fun i => ⟨[(0, x), (1, y), (5, .int .i64 i)], []⟩) (fun i H' => H = H' ∧ ∀ j, j < i → A[j]? = B[j]?) (fun i H1 K hi ⟨hH, hj⟩ hn hxx hrr => ?_) 0 H (by omega) ⟨rfl, fun j hj => by omega⟩
    subst hH
    by_cases he : i < A.length
    · obtain ⟨b1, o1, c1', hx1⟩ := ha.1.at0 (by omega)
      obtain ⟨b2, o2, c2', hy1⟩ := hb.1.at0 (by omega)
      obtain ⟨pa, pc, pe, _, ra, arra⟩ := rrd_at ha he hx1
      obtain ⟨qa, qc, qe, _, rb, arrb⟩ := rrd_at hb (i := i) (by omega) hy1
      have hAi : A[i]? = some A[i] := by simp [he]
      have hBi : B[i]? = some (B[i]'(by omega)) := by simp [← hl, he]
      have hml := hlr A[i] (List.getElem_mem _)
      generalize hAl : A[i] = l at *
      generalize hBl : B[i]'(by omega) = k at *
      subst hx1 hy1
      by_cases hlk : l.length = k.length
      · simp -implicitDefEqProofs -dsimp (disch := omega) only [go_sem, Nat.reduceEqDiff, ↓reduceIte, Nat.reduceAdd, Nat.reduceMul, Nat.reduceSub, Nat.reduceLT, Nat.reduceLeDiff, Int.reduceLT, Int.reduceLE, Int.reduceEq, Int.reduceNeg, Int.reduceAdd, Int.reduceMul, Int.reduceSub, Int.reduceToNat, reduceCtorEq, dec_t, dec_f, burinref0_EqRuns_l0, Int.toNat_natCast, Nat.mul_one, ra, rb]
        refine loop_cnt l.length (fun z => ⟨[(0, .sl (some (b1, o1)) A.length c1' 1), (1, .sl (some (b2, o2)) B.length c2' 1), (5, .int .i64 i), (6, .int .i64 z)], []⟩) (fun z H' => H = H' ∧ ∀ j : Nat, j < z → l[j]? = k[j]?) (fun z H2 K2 hz ⟨hH2, hj2⟩ hn2 hxx2 hrr2 => ?_) 0 H (by omega) ⟨rfl, fun j hj => by omega⟩
        subst hH2
        by_cases hzl : z < l.length
        · obtain ⟨pb, po, pc', hpe⟩ := arra.at0 (by omega)
          obtain ⟨qb, qo, qc', hqe⟩ := arrb.at0 (by omega)
          cases hpe
          cases hqe
          have r1 := run_rd arra hzl
          have r2 := run_rd arrb (i := z) (by omega)
          have l1 : l[z]? = some l[z] := by simp [hzl]
          have l2 : k[z]? = some (k[z]'(by omega)) := by simp [← hlk, hzl]
          generalize l[z] = r at *
          generalize k[z]'(by omega) = q at *
          by_cases hrq : r.1 = q.1 ∧ r.2 = q.2
          · obtain ⟨u1, u2⟩ := hrq
            simp -implicitDefEqProofs -dsimp (disch := omega) only [go_sem, Nat.reduceEqDiff, ↓reduceIte, Nat.reduceAdd, Nat.reduceMul, Nat.reduceSub, Nat.reduceLT, Nat.reduceLeDiff, Int.reduceLT, Int.reduceLE, Int.reduceEq, Int.reduceNeg, Int.reduceAdd, Int.reduceMul, Int.reduceSub, Int.reduceToNat, reduceCtorEq, dec_t, dec_f, burinref0_EqRuns_l1, Int.toNat_natCast, Nat.mul_one, ra, rb, r1, r2, eqAgg, eqF, w64, cadd1]
            refine hn2 hzl H ⟨rfl, fun j hj3 => ?_⟩
            by_cases ej : j = z
            · subst ej; rw [l1, l2, Prod.ext u1 u2]
            · exact hj2 j (by omega)
          · have hne : ¬ A = B := by
              rintro rfl
              rw [hAi] at hBi
              cases hBi
              rw [l1] at l2
              cases l2
              exact hrq ⟨rfl, rfl⟩
            rw [decide_eq_false hne] at hQ
            by_cases u1 : r.1 = q.1
            · have u2 : ¬ r.2 = q.2 := fun e => hrq ⟨u1, e⟩
              simp -implicitDefEqProofs -dsimp (disch := omega) only [go_sem, Nat.reduceEqDiff, ↓reduceIte, Nat.reduceAdd, Nat.reduceMul, Nat.reduceSub, Nat.reduceLT, Nat.reduceLeDiff, Int.reduceLT, Int.reduceLE, Int.reduceEq, Int.reduceNeg, Int.reduceAdd, Int.reduceMul, Int.reduceSub, Int.reduceToNat, reduceCtorEq, dec_t, dec_f, burinref0_EqRuns_l1, Int.toNat_natCast, Nat.mul_one, ra, rb, r1, r2, eqAgg, eqF, Bool.and_false]
              rw [hrr2]
              simp -implicitDefEqProofs -dsimp (disch := omega) only [go_sem, Nat.reduceEqDiff, ↓reduceIte, Nat.reduceAdd, Nat.reduceMul, Nat.reduceSub, Nat.reduceLT, Nat.reduceLeDiff, Int.reduceLT, Int.reduceLE, Int.reduceEq, Int.reduceNeg, Int.reduceAdd, Int.reduceMul, Int.reduceSub, Int.reduceToNat, reduceCtorEq, dec_t, dec_f, ]
              rw [hrr]
              simp -implicitDefEqProofs -dsimp (disch := omega) only [go_sem, Nat.reduceEqDiff, ↓reduceIte, Nat.reduceAdd, Nat.reduceMul, Nat.reduceSub, Nat.reduceLT, Nat.reduceLeDiff, Int.reduceLT, Int.reduceLE, Int.reduceEq, Int.reduceNeg, Int.reduceAdd, Int.reduceMul, Int.reduceSub, Int.reduceToNat, reduceCtorEq, dec_t, dec_f, ]
              exact hQ
            · simp -implicitDefEqProofs -dsimp (disch := omega) only [go_sem, Nat.reduceEqDiff, ↓reduceIte, Nat.reduceAdd, Nat.reduceMul, Nat.reduceSub, Nat.reduceLT, Nat.reduceLeDiff, Int.reduceLT, Int.reduceLE, Int.reduceEq, Int.reduceNeg, Int.reduceAdd, Int.reduceMul, Int.reduceSub, Int.reduceToNat, reduceCtorEq, dec_t, dec_f, burinref0_EqRuns_l1, Int.toNat_natCast, Nat.mul_one, ra, rb, r1, r2, eqAgg, eqF, Bool.false_and]
              rw [hrr2]
              simp -implicitDefEqProofs -dsimp (disch := omega) only [go_sem, Nat.reduceEqDiff, ↓reduceIte, Nat.reduceAdd, Nat.reduceMul, Nat.reduceSub, Nat.reduceLT, Nat.reduceLeDiff, Int.reduceLT, Int.reduceLE, Int.reduceEq, Int.reduceNeg, Int.reduceAdd, Int.reduceMul, Int.reduceSub, Int.reduceToNat, reduceCtorEq, dec_t, dec_f, ]
              rw [hrr]
              simp -implicitDefEqProofs -dsimp (disch := omega) only [go_sem, Nat.reduceEqDiff, ↓reduceIte, Nat.reduceAdd, Nat.reduceMul, Nat.reduceSub, Nat.reduceLT, Nat.reduceLeDiff, Int.reduceLT, Int.reduceLE, Int.reduceEq, Int.reduceNeg, Int.reduceAdd, Int.reduceMul, Int.reduceSub, Int.reduceToNat, reduceCtorEq, dec_t, dec_f, ]
              exact hQ
        · obtain rfl : z = l.length := by omega
          simp -implicitDefEqProofs -dsimp (disch := omega) only [go_sem, Nat.reduceEqDiff, ↓reduceIte, Nat.reduceAdd, Nat.reduceMul, Nat.reduceSub, Nat.reduceLT, Nat.reduceLeDiff, Int.reduceLT, Int.reduceLE, Int.reduceEq, Int.reduceNeg, Int.reduceAdd, Int.reduceMul, Int.reduceSub, Int.reduceToNat, reduceCtorEq, dec_t, dec_f, burinref0_EqRuns_l1, Int.toNat_natCast, Nat.mul_one, ra]
          rw [hxx2]
          simp -implicitDefEqProofs -dsimp (disch := omega) only [go_sem, Nat.reduceEqDiff, ↓reduceIte, Nat.reduceAdd, Nat.reduceMul, Nat.reduceSub, Nat.reduceLT, Nat.reduceLeDiff, Int.reduceLT, Int.reduceLE, Int.reduceEq, Int.reduceNeg, Int.reduceAdd, Int.reduceMul, Int.reduceSub, Int.reduceToNat, reduceCtorEq, dec_t, dec_f, w64, cadd1]
          refine hn he H ⟨rfl, fun j hj3 => ?_⟩
          by_cases ej : j = i
          · subst ej
            rw [hAi, hBi]
            congr 1
            refine List.ext_getElem? fun n => ?_
            by_cases hnl : n < l.length
            · exact hj2 n hnl
            · rw [List.getElem?_eq_none (by omega), List.getElem?_eq_none (by omega)]
          · exact hj j (by omega)
      · have hne : ¬ A = B := by
          rintro rfl
          rw [hAi] at hBi
          cases hBi
          exact hlk rfl
        rw [decide_eq_false hne] at hQ
        simp -implicitDefEqProofs -dsimp (disch := omega) only [go_sem, Nat.reduceEqDiff, ↓reduceIte, Nat.reduceAdd, Nat.reduceMul, Nat.reduceSub, Nat.reduceLT, Nat.reduceLeDiff, Int.reduceLT, Int.reduceLE, Int.reduceEq, Int.reduceNeg, Int.reduceAdd, Int.reduceMul, Int.reduceSub, Int.reduceToNat, reduceCtorEq, dec_t, dec_f, burinref0_EqRuns_l0, Int.toNat_natCast, Nat.mul_one, ra, rb]
        rw [hrr]
        simp -implicitDefEqProofs -dsimp (disch := omega) only [go_sem, Nat.reduceEqDiff, ↓reduceIte, Nat.reduceAdd, Nat.reduceMul, Nat.reduceSub, Nat.reduceLT, Nat.reduceLeDiff, Int.reduceLT, Int.reduceLE, Int.reduceEq, Int.reduceNeg, Int.reduceAdd, Int.reduceMul, Int.reduceSub, Int.reduceToNat, reduceCtorEq, dec_t, dec_f, ]
        exact hQ
    · obtain rfl : i = A.length := by omega
      rw [decide_eq_true (List.ext_getElem? fun n => by
        by_cases hnl : n < A.length
        · exact hj n hnl
        · rw [List.getElem?_eq_none (by omega), List.getElem?_eq_none (by omega)])] at hQ
      rw [hx]
      simp -implicitDefEqProofs -dsimp (disch := omega) only [go_sem, Nat.reduceEqDiff, ↓reduceIte, Nat.reduceAdd, Nat.reduceMul, Nat.reduceSub, Nat.reduceLT, Nat.reduceLeDiff, Int.reduceLT, Int.reduceLE, Int.reduceEq, Int.reduceNeg, Int.reduceAdd, Int.reduceMul, Int.reduceSub, Int.reduceToNat, reduceCtorEq, dec_t, dec_f, burinref0_EqRuns_l0]
      rw [hxx]
      simp -implicitDefEqProofs -dsimp (disch := omega) only [go_sem, Nat.reduceEqDiff, ↓reduceIte, Nat.reduceAdd, Nat.reduceMul, Nat.reduceSub, Nat.reduceLT, Nat.reduceLeDiff, Int.reduceLT, Int.reduceLE, Int.reduceEq, Int.reduceNeg, Int.reduceAdd, Int.reduceMul, Int.reduceSub, Int.reduceToNat, reduceCtorEq, dec_t, dec_f, ]
      exact hQ
  subst hx hy
  simp -implicitDefEqProofs -dsimp (disch := omega) only [go_sem, Nat.reduceEqDiff, ↓reduceIte, Nat.reduceAdd, Nat.reduceMul, Nat.reduceSub, Nat.reduceLT, Nat.reduceLeDiff, Int.reduceLT, Int.reduceLE, Int.reduceEq, Int.reduceNeg, Int.reduceAdd, Int.reduceMul, Int.reduceSub, Int.reduceToNat, reduceCtorEq, dec_t, dec_f, ]
  simp -implicitDefEqProofs -dsimp (disch := omega) only [go_sem, Nat.reduceEqDiff, ↓reduceIte, Nat.reduceAdd, Nat.reduceMul, Nat.reduceSub, Nat.reduceLT, Nat.reduceLeDiff, Int.reduceLT, Int.reduceLE, Int.reduceEq, Int.reduceNeg, Int.reduceAdd, Int.reduceMul, Int.reduceSub, Int.reduceToNat, reduceCtorEq, dec_t, dec_f, ] at start
  exact start
end
end Go.Ab
