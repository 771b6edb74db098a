/- Segments are compared. Conditions: none. -/
import Derived.Test.YtnpdnkmnnmmagaaSc
import Derived.Test.YtnpdnkmnnmmagaaBk
set_option linter.all false
namespace Go.Ab
section
variable {P : Prog} {H : Heap} {R : List As} {Q : Out → Heap → Prop}
theorem take_eq {α : Type} {l m : List α} (hlen : l.length = m.length) {i : Nat} (ht : l.take i = m.take i) (hi : i = l.length) : l = m := by
  subst hi
  rw [List.take_length, hlen, List.take_length] at ht
  exact ht
def eqF' (x y : V) (i : Nat) : Fr := ⟨[(0, x), (1, y), (5, .int .i64 (i : Nat))], []⟩
theorem eqInts_ct (hp : HasSeg P) {x y : V} {l m : List Int} (hx : Arr H x 1 l.length (i64s l)) (hy : Arr H y 1 m.length (i64s m)) (hl : l.length ≤ 140737488355328) (hQ : Q (.ret (.bool (decide (l = m)))) H) : Call P 164 [x, y] H Q := by
  obtain ⟨a1, c1, e1, rfl⟩ := hx.shape
  obtain ⟨a2, c2, e2, rfl⟩ := hy.shape
  refine call_of hp.h_burinref0_EqInts rfl ?_
  by_cases hlen : l.length = m.length
  rotate_left
  · rw [dec_f (show ¬ l = m from fun e => hlen (by rw [e]))] at hQ
    simp -implicitDefEqProofs -dsimp (disch := omega) only [go_sem, Nat.reduceEqDiff, ↓reduceIte, Nat.reduceAdd, Nat.reduceMul, Nat.reduceSub, Nat.reduceLT, Nat.reduceLeDiff, Int.reduceLT, Int.reduceLE, Int.reduceEq, Int.reduceNeg, Int.reduceAdd, Int.reduceMul, Int.reduceSub, Int.reduceToNat, reduceCtorEq, dec_t, dec_f, ]
    exact hQ
  simp -implicitDefEqProofs -dsimp (disch := omega) only [go_sem, Nat.reduceEqDiff, ↓reduceIte, Nat.reduceAdd, Nat.reduceMul, Nat.reduceSub, Nat.reduceLT, Nat.reduceLeDiff, Int.reduceLT, Int.reduceLE, Int.reduceEq, Int.reduceNeg, Int.reduceAdd, Int.reduceMul, Int.reduceSub, Int.reduceToNat, reduceCtorEq, dec_t, dec_f, ]
  refine loop_cnt l.length (eqF' (.sl a1 l.length c1 e1) (.sl a2 m.length c2 e2)) (fun i H' => H' = H ∧ l.take i = m.take i) (fun i H' K hi hS hn hx1 hx2 => ?_) 0 H (Nat.zero_le _) ⟨rfl, by simp⟩
  obtain ⟨rfl, ht⟩ := hS
  unfold eqF'
  by_cases hlt : i < l.length
  · obtain ⟨b3, o3, c3, hv3, hr3⟩ := arr_int hx hlt
    obtain ⟨b4, o4, c4, hv4, hr4⟩ := arr_int hy (i := i) (by omega)
    cases hv3; cases hv4
    have t1 := List.take_succ_eq_append_getElem hlt
    have t2 := List.take_succ_eq_append_getElem (l := m) (i := i) (by omega)
    by_cases hne : l[i] = m[i]
    · rw [hne] at hr3 t1
      generalize m[i] = z at *
      simp -implicitDefEqProofs -dsimp (disch := omega) only [go_sem, Nat.reduceEqDiff, ↓reduceIte, Nat.reduceAdd, Nat.reduceMul, Nat.reduceSub, Nat.reduceLT, Nat.reduceLeDiff, Int.reduceLT, Int.reduceLE, Int.reduceEq, Int.reduceNeg, Int.reduceAdd, Int.reduceMul, Int.reduceSub, Int.reduceToNat, reduceCtorEq, dec_t, dec_f, burinref0_EqInts_l0, Int.toNat_natCast, Nat.mul_one, hr3, hr4, w64, cadd1]
      exact hn hlt H' ⟨rfl, by rw [t1, t2, ht]⟩
    · have hne' : ¬ l = m := fun e => hne (by subst e; rfl)
      rw [dec_f hne'] at hQ
      generalize l[i] = z1 at *
      generalize m[i] = z2 at *
      simp -implicitDefEqProofs -dsimp (disch := omega) only [go_sem, Nat.reduceEqDiff, ↓reduceIte, Nat.reduceAdd, Nat.reduceMul, Nat.reduceSub, Nat.reduceLT, Nat.reduceLeDiff, Int.reduceLT, Int.reduceLE, Int.reduceEq, Int.reduceNeg, Int.reduceAdd, Int.reduceMul, Int.reduceSub, Int.reduceToNat, reduceCtorEq, dec_t, dec_f, burinref0_EqInts_l0, Int.toNat_natCast, Nat.mul_one, hr3, hr4, hne]
      rw [hx2]
      simp -implicitDefEqProofs -dsimp (disch := omega) only [go_sem, Nat.reduceEqDiff, ↓reduceIte, Nat.reduceAdd, Nat.reduceMul, Nat.reduceSub, Nat.reduceLT, Nat.reduceLeDiff, Int.reduceLT, Int.reduceLE, Int.reduceEq, Int.reduceNeg, Int.reduceAdd, Int.reduceMul, Int.reduceSub, Int.reduceToNat, reduceCtorEq, dec_t, dec_f, ]
      exact hQ
  · have : i = l.length := by omega
    rw [dec_t (take_eq hlen ht this)] at hQ
    subst this
    simp -implicitDefEqProofs -dsimp (disch := omega) only [go_sem, Nat.reduceEqDiff, ↓reduceIte, Nat.reduceAdd, Nat.reduceMul, Nat.reduceSub, Nat.reduceLT, Nat.reduceLeDiff, Int.reduceLT, Int.reduceLE, Int.reduceEq, Int.reduceNeg, Int.reduceAdd, Int.reduceMul, Int.reduceSub, Int.reduceToNat, reduceCtorEq, dec_t, dec_f, burinref0_EqInts_l0]
    rw [hx1]
    simp -implicitDefEqProofs -dsimp (disch := omega) only [go_sem, Nat.reduceEqDiff, ↓reduceIte, Nat.reduceAdd, Nat.reduceMul, Nat.reduceSub, Nat.reduceLT, Nat.reduceLeDiff, Int.reduceLT, Int.reduceLE, Int.reduceEq, Int.reduceNeg, Int.reduceAdd, Int.reduceMul, Int.reduceSub, Int.reduceToNat, reduceCtorEq, dec_t, dec_f, ]
    exact hQ
theorem eqFlags_ct (hp : HasSeg P) {x y : V} {l m : List Bool} (hx : Arr H x 1 l.length (bools l)) (hy : Arr H y 1 m.length (bools m)) (hl : l.length ≤ 140737488355328) (hQ : Q (.ret (.bool (decide (l = m)))) H) : Call P 165 [x, y] H Q := by
  obtain ⟨a1, c1, e1, rfl⟩ := hx.shape
  obtain ⟨a2, c2, e2, rfl⟩ := hy.shape
  refine call_of hp.h_burinref0_EqFlags rfl ?_
  by_cases hlen : l.length = m.length
  rotate_left
  · rw [dec_f (show ¬ l = m from fun e => hlen (by rw [e]))] at hQ
    simp -implicitDefEqProofs -dsimp (disch := omega) only [go_sem, Nat.reduceEqDiff, ↓reduceIte, Nat.reduceAdd, Nat.reduceMul, Nat.reduceSub, Nat.reduceLT, Nat.reduceLeDiff, Int.reduceLT, Int.reduceLE, Int.reduceEq, Int.reduceNeg, Int.reduceAdd, Int.reduceMul, Int.reduceSub, Int.reduceToNat, reduceCtorEq, dec_t, dec_f, ]
    exact hQ
  simp -implicitDefEqProofs -dsimp (disch := omega) only [go_sem, Nat.reduceEqDiff, ↓reduceIte, Nat.reduceAdd, Nat.reduceMul, Nat.reduceSub, Nat.reduceLT, Nat.reduceLeDiff, Int.reduceLT, Int.reduceLE, Int.reduceEq, Int.reduceNeg, Int.reduceAdd, Int.reduceMul, Int.reduceSub, Int.reduceToNat, reduceCtorEq, dec_t, dec_f, ]
  refine loop_cnt l.length (eqF' (.sl a1 l.length c1 e1) (.sl a2 m.length c2 e2)) (fun i H' => H' = H ∧ l.take i = m.take i) (fun i H' K hi hS hn hx1 hx2 => ?_) 0 H (Nat.zero_le _) ⟨rfl, by simp⟩
  obtain ⟨rfl, ht⟩ := hS
  unfold eqF'
  by_cases hlt : i < l.length
  · obtain ⟨b3, o3, c3, hv3, hr3⟩ := arr_bool hx hlt
    obtain ⟨b4, o4, c4, hv4, hr4⟩ := arr_bool hy (i := i) (by omega)
    cases hv3; cases hv4
    have t1 := List.take_succ_eq_append_getElem hlt
    have t2 := List.take_succ_eq_append_getElem (l := m) (i := i) (by omega)
    by_cases hne : l[i] = m[i]
    · rw [hne] at hr3 t1
      generalize m[i] = z at *
      cases z
      all_goals
        simp -implicitDefEqProofs -dsimp (disch := omega) only [go_sem, Nat.reduceEqDiff, ↓reduceIte, Nat.reduceAdd, Nat.reduceMul, Nat.reduceSub, Nat.reduceLT, Nat.reduceLeDiff, Int.reduceLT, Int.reduceLE, Int.reduceEq, Int.reduceNeg, Int.reduceAdd, Int.reduceMul, Int.reduceSub, Int.reduceToNat, reduceCtorEq, dec_t, dec_f, burinref0_EqFlags_l0, Int.toNat_natCast, Nat.mul_one, hr3, hr4, w64, cadd1, beq_self_eq_true]
        exact hn hlt H' ⟨rfl, by rw [t1, t2, ht]⟩
    · have hne' : ¬ l = m := fun e => hne (by subst e; rfl)
      rw [dec_f hne'] at hQ
      generalize l[i] = z1 at *
      generalize m[i] = z2 at *
      have hb : (z1 == z2) = false := by simpa using hne
      simp -implicitDefEqProofs -dsimp (disch := omega) only [go_sem, Nat.reduceEqDiff, ↓reduceIte, Nat.reduceAdd, Nat.reduceMul, Nat.reduceSub, Nat.reduceLT, Nat.reduceLeDiff, Int.reduceLT, Int.reduceLE, Int.reduceEq, Int.reduceNeg, Int.reduceAdd, Int.reduceMul, Int.reduceSub, Int.reduceToNat, reduceCtorEq, dec_t, dec_f, burinref0_EqFlags_l0, Int.toNat_natCast, Nat.mul_one, hr3, hr4, hb]
      rw [hx2]
      simp -implicitDefEqProofs -dsimp (disch := omega) only [go_sem, Nat.reduceEqDiff, ↓reduceIte, Nat.reduceAdd, Nat.reduceMul, Nat.reduceSub, Nat.reduceLT, Nat.reduceLeDiff, Int.reduceLT, Int.reduceLE, Int.reduceEq, Int.reduceNeg, Int.reduceAdd, Int.reduceMul, Int.reduceSub, Int.reduceToNat, reduceCtorEq, dec_t, dec_f, ]
      exact hQ
  · have : i = l.length := by omega
    rw [dec_t (take_eq hlen ht this)] at hQ
    subst this
    simp -implicitDefEqProofs -dsimp (disch := omega) only [go_sem, Nat.reduceEqDiff, ↓reduceIte, Nat.reduceAdd, Nat.reduceMul, Nat.reduceSub, Nat.reduceLT, Nat.reduceLeDiff, Int.reduceLT, Int.reduceLE, Int.reduceEq, Int.reduceNeg, Int.reduceAdd, Int.reduceMul, Int.reduceSub, Int.reduceToNat, reduceCtorEq, dec_t, dec_f, burinref0_EqFlags_l0]
    rw [hx1]
    simp -implicitDefEqProofs -dsimp (disch := omega) only [go_sem, Nat.reduceEqDiff, ↓reduceIte, Nat.reduceAdd, Nat.reduceMul, Nat.reduceSub, Nat.reduceLT, Nat.reduceLeDiff, Int.reduceLT, Int.reduceLE, Int.reduceEq, Int.reduceNeg, Int.reduceAdd, Int.reduceMul, Int.reduceSub, Int.reduceToNat, reduceCtorEq, dec_t, dec_f, ]
    exact hQ
def SgEq (s t : Sg) : Prop := s.num = t.num ∧ s.kind = t.kind ∧ s.page = t.page ∧ s.refs = t.refs ∧ s.keep = t.keep ∧ s.stay = t.stay ∧ s.data = t.data
instance (s t : Sg) : Decidable (SgEq s t) := by unfold SgEq; infer_instance
set_option maxHeartbeats 1000000 in
theorem eqSeg_ct (hp : HasSeg P) (he : P 26 = some burinref0_Eq) {u1 u2 u3 v1 v2 v3 : V} {s t : Sg} (hx : SgR H u1 u2 u3 s) (hy : SgR H v1 v2 v3 t) (hQ : ∀ H', Same (fun _ => False) H H' → Q (.ret (.bool (decide (SgEq s t)))) H') : Call P 166 [.agg (s.cells u1 u2 u3), .agg (t.cells v1 v2 v3)] H Q := by
  refine call_of hp.h_burinref0_EqSegment rfl ?_
  have g1 := ((Hs.start H).alloc (l := s.cells u1 u2 u3)).alloc (l := t.cells v1 v2 v3)
  rw [next_new] at g1
  have sm := (Hs.p2 g1).base
  have hx := hx.same sm
  have hy := hy.same sm
  have hQ := hQ _ sm
  obtain ⟨n1, k1, p1, r1, f1, st1, d1⟩ := s
  obtain ⟨n2, k2, p2, r2, f2, st2, d2⟩ := t
  have q1 := rd_s (Hs.p1 g1).cel
  have q2 := rd_s g1.cel
  have l1 := hx.ok.l1
  have l2 := hx.ok.l2
  have l3 := hx.ok.l3
  have hxr := hx.refs
  have hxk := hx.keep
  have hxd := hx.data
  have hyr := hy.refs
  have hyk := hy.keep
  have hyd := hy.data
  unfold Sg.cells at *
  dsimp only at *
  have fls : ¬ (n1 = n2 ∧ k1 = k2 ∧ p1 = p2 ∧ r1 = r2 ∧ f1 = f2 ∧ st1 = st2 ∧ d1 = d2) → Q (.ret (.bool false)) _ := fun k => by rw [dec_f (show ¬ SgEq ⟨n1, k1, p1, r1, f1, st1, d1⟩ ⟨n2, k2, p2, r2, f2, st2, d2⟩ from k)] at hQ; exact hQ
  simp -implicitDefEqProofs -dsimp (disch := omega) only [go_sem, Nat.reduceEqDiff, ↓reduceIte, Nat.reduceAdd, Nat.reduceMul, Nat.reduceSub, Nat.reduceLT, Nat.reduceLeDiff, Int.reduceLT, Int.reduceLE, Int.reduceEq, Int.reduceNeg, Int.reduceAdd, Int.reduceMul, Int.reduceSub, Int.reduceToNat, reduceCtorEq, dec_t, dec_f, q1, q2]
  by_cases z1 : n1 = n2
  rotate_left
  · rw [dec_f z1]
    simp -implicitDefEqProofs -dsimp (disch := omega) only [go_sem, Nat.reduceEqDiff, ↓reduceIte, Nat.reduceAdd, Nat.reduceMul, Nat.reduceSub, Nat.reduceLT, Nat.reduceLeDiff, Int.reduceLT, Int.reduceLE, Int.reduceEq, Int.reduceNeg, Int.reduceAdd, Int.reduceMul, Int.reduceSub, Int.reduceToNat, reduceCtorEq, dec_t, dec_f, ]
    exact fls fun k => z1 k.1
  by_cases z2 : k1 = k2
  rotate_left
  · rw [dec_t z1]
    simp -implicitDefEqProofs -dsimp (disch := omega) only [go_sem, Nat.reduceEqDiff, ↓reduceIte, Nat.reduceAdd, Nat.reduceMul, Nat.reduceSub, Nat.reduceLT, Nat.reduceLeDiff, Int.reduceLT, Int.reduceLE, Int.reduceEq, Int.reduceNeg, Int.reduceAdd, Int.reduceMul, Int.reduceSub, Int.reduceToNat, reduceCtorEq, dec_t, dec_f, q1, q2]
    exact fls fun k => z2 k.2.1
  by_cases z3 : p1 = p2
  rotate_left
  · rw [dec_t z1]
    simp -implicitDefEqProofs -dsimp (disch := omega) only [go_sem, Nat.reduceEqDiff, ↓reduceIte, Nat.reduceAdd, Nat.reduceMul, Nat.reduceSub, Nat.reduceLT, Nat.reduceLeDiff, Int.reduceLT, Int.reduceLE, Int.reduceEq, Int.reduceNeg, Int.reduceAdd, Int.reduceMul, Int.reduceSub, Int.reduceToNat, reduceCtorEq, dec_t, dec_f, q1, q2]
    exact fls fun k => z3 k.2.2.1
  rw [dec_t z1]
  simp -implicitDefEqProofs -dsimp (disch := omega) only [go_sem, Nat.reduceEqDiff, ↓reduceIte, Nat.reduceAdd, Nat.reduceMul, Nat.reduceSub, Nat.reduceLT, Nat.reduceLeDiff, Int.reduceLT, Int.reduceLE, Int.reduceEq, Int.reduceNeg, Int.reduceAdd, Int.reduceMul, Int.reduceSub, Int.reduceToNat, reduceCtorEq, dec_t, dec_f, q1, q2]
  refine eqInts_ct hp hxr hyr l1 ?_
  by_cases z4 : r1 = r2
  rotate_left
  · rw [dec_f z4]
    simp -implicitDefEqProofs -dsimp (disch := omega) only [go_sem, Nat.reduceEqDiff, ↓reduceIte, Nat.reduceAdd, Nat.reduceMul, Nat.reduceSub, Nat.reduceLT, Nat.reduceLeDiff, Int.reduceLT, Int.reduceLE, Int.reduceEq, Int.reduceNeg, Int.reduceAdd, Int.reduceMul, Int.reduceSub, Int.reduceToNat, reduceCtorEq, dec_t, dec_f, ]
    exact fls fun k => z4 k.2.2.2.1
  rw [dec_t z4]
  simp -implicitDefEqProofs -dsimp (disch := omega) only [go_sem, Nat.reduceEqDiff, ↓reduceIte, Nat.reduceAdd, Nat.reduceMul, Nat.reduceSub, Nat.reduceLT, Nat.reduceLeDiff, Int.reduceLT, Int.reduceLE, Int.reduceEq, Int.reduceNeg, Int.reduceAdd, Int.reduceMul, Int.reduceSub, Int.reduceToNat, reduceCtorEq, dec_t, dec_f, q1, q2]
  refine eqFlags_ct hp hxk hyk l2 ?_
  by_cases z5 : f1 = f2
  rotate_left
  · rw [dec_f z5]
    simp -implicitDefEqProofs -dsimp (disch := omega) only [go_sem, Nat.reduceEqDiff, ↓reduceIte, Nat.reduceAdd, Nat.reduceMul, Nat.reduceSub, Nat.reduceLT, Nat.reduceLeDiff, Int.reduceLT, Int.reduceLE, Int.reduceEq, Int.reduceNeg, Int.reduceAdd, Int.reduceMul, Int.reduceSub, Int.reduceToNat, reduceCtorEq, dec_t, dec_f, ]
    exact fls fun k => z5 k.2.2.2.2.1
  rw [dec_t z5]
  by_cases z6 : st1 = st2
  rotate_left
  · have hb : (st1 == st2) = false := by simpa using z6
    simp -implicitDefEqProofs -dsimp (disch := omega) only [go_sem, Nat.reduceEqDiff, ↓reduceIte, Nat.reduceAdd, Nat.reduceMul, Nat.reduceSub, Nat.reduceLT, Nat.reduceLeDiff, Int.reduceLT, Int.reduceLE, Int.reduceEq, Int.reduceNeg, Int.reduceAdd, Int.reduceMul, Int.reduceSub, Int.reduceToNat, reduceCtorEq, dec_t, dec_f, q1, q2, hb]
    exact fls fun k => z6 k.2.2.2.2.2.1
  have hb : (st1 == st2) = true := by simpa using z6
  simp -implicitDefEqProofs -dsimp (disch := omega) only [go_sem, Nat.reduceEqDiff, ↓reduceIte, Nat.reduceAdd, Nat.reduceMul, Nat.reduceSub, Nat.reduceLT, Nat.reduceLeDiff, Int.reduceLT, Int.reduceLE, Int.reduceEq, Int.reduceNeg, Int.reduceAdd, Int.reduceMul, Int.reduceSub, Int.reduceToNat, reduceCtorEq, dec_t, dec_f, q1, q2, hb]
  refine eq_ct he hxd hyd (by omega) ?_
  by_cases z7 : d1 = d2
  · rw [dec_t z7]
    simp -implicitDefEqProofs -dsimp (disch := omega) only [go_sem, Nat.reduceEqDiff, ↓reduceIte, Nat.reduceAdd, Nat.reduceMul, Nat.reduceSub, Nat.reduceLT, Nat.reduceLeDiff, Int.reduceLT, Int.reduceLE, Int.reduceEq, Int.reduceNeg, Int.reduceAdd, Int.reduceMul, Int.reduceSub, Int.reduceToNat, reduceCtorEq, dec_t, dec_f, ]
    rw [dec_t (show SgEq ⟨n1, k1, p1, r1, f1, st1, d1⟩ ⟨n2, k2, p2, r2, f2, st2, d2⟩ from ⟨z1, z2, z3, z4, z5, z6, z7⟩)] at hQ
    exact hQ
  · rw [dec_f z7]
    simp -implicitDefEqProofs -dsimp (disch := omega) only [go_sem, Nat.reduceEqDiff, ↓reduceIte, Nat.reduceAdd, Nat.reduceMul, Nat.reduceSub, Nat.reduceLT, Nat.reduceLeDiff, Int.reduceLT, Int.reduceLE, Int.reduceEq, Int.reduceNeg, Int.reduceAdd, Int.reduceMul, Int.reduceSub, Int.reduceToNat, reduceCtorEq, dec_t, dec_f, ]
    exact fls fun k => z7 k.2.2.2.2.2.2
end
end Go.Ab
