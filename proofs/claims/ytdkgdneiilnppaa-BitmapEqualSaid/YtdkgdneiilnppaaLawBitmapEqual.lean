/- The law BitmapEqual. Conditions: none. -/
import Derived.Test.YtdkgdneiilnppaaCt
import Derived.Test.YtdkgdneiilnppaaPL2Equal
set_option linter.all false
namespace Go.Ab

def BeI (H : Heap) (v : V) (n : Nat) (k : Nat) (fr : Fr) (H' : Heap) : Prop :=
  ∃ i : Nat, k = n - i ∧ i ≤ n ∧ i ≤ 6 ∧ fr = ⟨[(0, v), (3, .int .i64 i)], []⟩ ∧ Hs H' [Bas H]
def BeJ (H : Heap) (v : V) (i : Nat) (k : Nat) (fr : Fr) (H' : Heap) : Prop :=
  ∃ j : Nat, k = i + 1 - j ∧ j ≤ i + 1 ∧ fr = ⟨[(0, v), (3, .int .i64 i), (4, .int .i64 j)], []⟩ ∧ Hs H' [Bas H]

theorem bitmapEqual {P : Prog} (hq : HasL2 P) (hg : P 109 = some burinlaw2_BitmapEqual) {H : Heap} {v : V} {l : List BmO} (hx : Arr H v 3 l.length (bmCells l)) (hb : ∀ o ∈ l, BmOk H o) (hl : l.length ≤ 140737488351232) :
    Call P 109 [v] H fun o _ => o = .ret (.bool true) := by
  obtain ⟨a1, c1, e1, rfl⟩ := hx.shape
  refine call_of hg rfl ?_
  simp -implicitDefEqProofs -dsimp (disch := omega) only [go_sem, Nat.reduceEqDiff, ↓reduceIte, Nat.reduceAdd, Nat.reduceMul, Nat.reduceSub, Nat.reduceLT, Nat.reduceLeDiff, Int.reduceLT, Int.reduceLE, Int.reduceEq, Int.reduceNeg, Int.reduceAdd, Int.reduceMul, Int.reduceSub, Int.reduceToNat, reduceCtorEq, dec_t, dec_f, ]
  refine loop_inv (BeI H _ l.length) ?_ l.length _ _ ⟨0, by omega, by omega, by omega, rfl, Hs.start H⟩
  rintro k fr H1 ⟨i, hk, hi1, hi3, rfl, h1⟩
  generalize hK : rnd (BeI H (.sl a1 l.length c1 e1) l.length) k = K
  by_cases hin : i < l.length ∧ i < 6
  · obtain ⟨hin1, hin2⟩ := hin
    obtain ⟨b1, o1, c1', e⟩ := hx.at0 (by omega)
    cases e
    simp -implicitDefEqProofs -dsimp (disch := omega) only [go_sem, Nat.reduceEqDiff, ↓reduceIte, Nat.reduceAdd, Nat.reduceMul, Nat.reduceSub, Nat.reduceLT, Nat.reduceLeDiff, Int.reduceLT, Int.reduceLE, Int.reduceEq, Int.reduceNeg, Int.reduceAdd, Int.reduceMul, Int.reduceSub, Int.reduceToNat, reduceCtorEq, dec_t, dec_f, burinlaw2_BitmapEqual_l0]
    refine loop_inv (BeJ H _ i) ?_ (i + 1) _ _ ⟨0, by omega, by omega, rfl, h1⟩
    rintro k2 fr2 H2 ⟨j, hk2, hj, rfl, h2⟩
    generalize hK2 : rnd (BeJ H (.sl (some (b1, o1)) l.length c1 3) i) k2 = K2
    by_cases hjn : j ≤ i
    · have hjl : j < l.length := by omega
      have ri := fun {H'} (s : Same (fun _ => False) H H') => (hx.same s fun _ _ h => h).agg hin1
      have rj := fun {H'} (s : Same (fun _ => False) H H') => (hx.same s fun _ _ h => h).agg hjl
      rw [bmCells_at hin1] at ri
      rw [bmCells_at hjl] at rj
      have ki := hb _ (List.getElem_mem hin1)
      have kj := hb _ (List.getElem_mem hjl)
      generalize l[i] = x at ri ki
      generalize l[j] = y at rj kj
      have s2 := h2.base
      have r1 := ri s2
      have r2 := rj s2
      unfold BmO.cs at r1 r2
      simp -implicitDefEqProofs -dsimp (disch := omega) only [go_sem, Nat.reduceEqDiff, ↓reduceIte, Nat.reduceAdd, Nat.reduceMul, Nat.reduceSub, Nat.reduceLT, Nat.reduceLeDiff, Int.reduceLT, Int.reduceLE, Int.reduceEq, Int.reduceNeg, Int.reduceAdd, Int.reduceMul, Int.reduceSub, Int.reduceToNat, reduceCtorEq, dec_t, dec_f, burinlaw2_BitmapEqual_l1, Int.toNat_natCast, r1, r2]
      refine equal_ct hq.bm h2 (fun s => (ki.arr.same s2 fun _ _ h => h).same s fun _ _ h => h) (fun s => (kj.arr.same s2 fun _ _ h => h).same s fun _ _ h => h) ki.lt kj.lt (by have := ki.len; omega) ki.w ki.h kj.w kj.h fun q1 H3 hq1 h3 s3 => ?_
      have s3 := h3.base
      have r1' := ri s3
      unfold BmO.cs at r1'
      simp -implicitDefEqProofs -dsimp (disch := omega) only [go_sem, Nat.reduceEqDiff, ↓reduceIte, Nat.reduceAdd, Nat.reduceMul, Nat.reduceSub, Nat.reduceLT, Nat.reduceLeDiff, Int.reduceLT, Int.reduceLE, Int.reduceEq, Int.reduceNeg, Int.reduceAdd, Int.reduceMul, Int.reduceSub, Int.reduceToNat, reduceCtorEq, dec_t, dec_f, ]
      refine aft_intro (by simp [rechecks, recheck, fresh, Fr.get, look, step, opd, r1', Int.toNat_natCast]) ?_
      simp -implicitDefEqProofs -dsimp (disch := omega) only [go_sem, Nat.reduceEqDiff, ↓reduceIte, Nat.reduceAdd, Nat.reduceMul, Nat.reduceSub, Nat.reduceLT, Nat.reduceLeDiff, Int.reduceLT, Int.reduceLE, Int.reduceEq, Int.reduceNeg, Int.reduceAdd, Int.reduceMul, Int.reduceSub, Int.reduceToNat, reduceCtorEq, dec_t, dec_f, ]
      refine may_ct hq.rz h3 (ki.arr.same s3 fun _ _ h => h) ki.lt ki.w ki.h fun q2 H4 hq2 h4 _ => ?_
      have s4 := h4.base
      have r1'' := ri s4
      have r2'' := rj s4
      unfold BmO.cs at r1'' r2''
      have eb1 : (!(false == false)) = false := rfl
      have eb2 : (!(true == true)) = false := rfl
      have eb3 : ∀ b : Bool, (!(b == b)) = false := fun b => by cases b <;> rfl
      -- the second half, wherever it is met
      have two : ∀ {H5 : Heap}, Hs H5 [Bas H] → ∀ Qq : Out → Heap → Prop, (∀ q H6, Hs H6 [Bas H] → (q = true ↔ mayB x.w x.h x.ws ∧ x.w = y.w ∧ x.h = y.h ∧ x.ws = y.ws) → Qq (.ret (.bool q)) H6) → Call P 73 [.agg [.int .i64 x.w, .int .i64 x.h, x.v], .agg [.int .i64 y.w, .int .i64 y.h, y.v]] H5 Qq :=
        fun {H5} h5 Qq hQ => equal_ct hq.bm h5 (fun s => (ki.arr.same h5.base fun _ _ h => h).same s fun _ _ h => h) (fun s => (kj.arr.same h5.base fun _ _ h => h).same s fun _ _ h => h) ki.lt kj.lt (by have := ki.len; omega) ki.w ki.h kj.w kj.h fun q H6 hqq h6 _ => hQ q H6 h6 hqq
      have two' : ∀ {H5 : Heap}, Hs H5 [Bas H] → ∀ Qq : Out → Heap → Prop, (∀ q H6, Hs H6 [Bas H] → (q = true ↔ mayB x.w x.h x.ws ∧ x.w = y.w ∧ x.h = y.h ∧ x.ws = y.ws) → Qq (.ret (.bool q)) H6) → Call P 73 [.agg [.int .i64 y.w, .int .i64 y.h, y.v], .agg [.int .i64 x.w, .int .i64 x.h, x.v]] H5 Qq :=
        fun {H5} h5 Qq hQ => equal_ct hq.bm h5 (fun s => (kj.arr.same h5.base fun _ _ h => h).same s fun _ _ h => h) (fun s => (ki.arr.same h5.base fun _ _ h => h).same s fun _ _ h => h) kj.lt ki.lt (by have := kj.len; omega) kj.w kj.h ki.w ki.h fun q H6 hqq h6 _ => hQ q H6 h6
          (hqq.trans ⟨fun ⟨a, b, c, d⟩ => ⟨by rw [← b, ← c, ← d]; exact a, b.symm, c.symm, d.symm⟩, fun ⟨a, b, c, d⟩ => ⟨by rw [← b, ← c, ← d]; exact a, b.symm, c.symm, d.symm⟩⟩)
      cases q2 with
      | false =>
        obtain rfl : q1 = false := by
          cases q1 with
          | false => rfl
          | true => have := hq2.2 (hq1.1 rfl).1; cases this
        simp -implicitDefEqProofs -dsimp (disch := omega) only [go_sem, Nat.reduceEqDiff, ↓reduceIte, Nat.reduceAdd, Nat.reduceMul, Nat.reduceSub, Nat.reduceLT, Nat.reduceLeDiff, Int.reduceLT, Int.reduceLE, Int.reduceEq, Int.reduceNeg, Int.reduceAdd, Int.reduceMul, Int.reduceSub, Int.reduceToNat, reduceCtorEq, dec_t, dec_f, d_gre, Int.toNat_natCast, r1'', r2'', eb1]
        refine two h4 _ fun q3 H5 h5 hq3 => ?_
        have r1 := ri h5.base
        have r2 := rj h5.base
        unfold BmO.cs at r1 r2
        simp -implicitDefEqProofs -dsimp (disch := omega) only [go_sem, Nat.reduceEqDiff, ↓reduceIte, Nat.reduceAdd, Nat.reduceMul, Nat.reduceSub, Nat.reduceLT, Nat.reduceLeDiff, Int.reduceLT, Int.reduceLE, Int.reduceEq, Int.reduceNeg, Int.reduceAdd, Int.reduceMul, Int.reduceSub, Int.reduceToNat, reduceCtorEq, dec_t, dec_f, ]
        refine aft_intro (by simp [rechecks, recheck, fresh, Fr.get, look, step, opd, r1, r2, Int.toNat_natCast]) ?_
        simp -implicitDefEqProofs -dsimp (disch := omega) only [go_sem, Nat.reduceEqDiff, ↓reduceIte, Nat.reduceAdd, Nat.reduceMul, Nat.reduceSub, Nat.reduceLT, Nat.reduceLeDiff, Int.reduceLT, Int.reduceLE, Int.reduceEq, Int.reduceNeg, Int.reduceAdd, Int.reduceMul, Int.reduceSub, Int.reduceToNat, reduceCtorEq, dec_t, dec_f, ]
        refine two' h5 _ fun q4 H6 h6 hq4 => ?_
        obtain rfl : q3 = q4 := by rw [Bool.eq_iff_iff]; exact hq3.trans hq4.symm
        simp -implicitDefEqProofs -dsimp (disch := omega) only [go_sem, Nat.reduceEqDiff, ↓reduceIte, Nat.reduceAdd, Nat.reduceMul, Nat.reduceSub, Nat.reduceLT, Nat.reduceLeDiff, Int.reduceLT, Int.reduceLE, Int.reduceEq, Int.reduceNeg, Int.reduceAdd, Int.reduceMul, Int.reduceSub, Int.reduceToNat, reduceCtorEq, dec_t, dec_f, eb3, w64, cadd1]
        subst hK2
        exact rnd_n (i + 1 - (j + 1)) (by omega) ⟨j + 1, rfl, by omega, rfl, h6⟩
      | true =>
        simp -implicitDefEqProofs -dsimp (disch := omega) only [go_sem, Nat.reduceEqDiff, ↓reduceIte, Nat.reduceAdd, Nat.reduceMul, Nat.reduceSub, Nat.reduceLT, Nat.reduceLeDiff, Int.reduceLT, Int.reduceLE, Int.reduceEq, Int.reduceNeg, Int.reduceAdd, Int.reduceMul, Int.reduceSub, Int.reduceToNat, reduceCtorEq, dec_t, dec_f, d_gre, Int.toNat_natCast, r1'', r2'']
        refine eqb_ct hq.rz h4 (ki.arr.same h4.base fun _ _ h => h) (kj.arr.same h4.base fun _ _ h => h) (by have := ki.len; omega) fun H5 h5 _ => ?_
        have r1 := ri h5.base
        have r2 := rj h5.base
        unfold BmO.cs at r1 r2
        have e1 : decide (x.w = y.w ∧ x.h = y.h ∧ x.ws = y.ws) = q1 := by
          rw [Bool.eq_iff_iff, decide_eq_true_iff, hq1]
          exact ⟨fun h => ⟨hq2.1 rfl, h⟩, fun h => h.2⟩
        rw [e1]
        simp -implicitDefEqProofs -dsimp (disch := omega) only [go_sem, Nat.reduceEqDiff, ↓reduceIte, Nat.reduceAdd, Nat.reduceMul, Nat.reduceSub, Nat.reduceLT, Nat.reduceLeDiff, Int.reduceLT, Int.reduceLE, Int.reduceEq, Int.reduceNeg, Int.reduceAdd, Int.reduceMul, Int.reduceSub, Int.reduceToNat, reduceCtorEq, dec_t, dec_f, d_gre, Int.toNat_natCast, r1, r2, eb3]
        refine two h5 _ fun q3 H6 h6 hq3 => ?_
        have r1 := ri h6.base
        have r2 := rj h6.base
        unfold BmO.cs at r1 r2
        simp -implicitDefEqProofs -dsimp (disch := omega) only [go_sem, Nat.reduceEqDiff, ↓reduceIte, Nat.reduceAdd, Nat.reduceMul, Nat.reduceSub, Nat.reduceLT, Nat.reduceLeDiff, Int.reduceLT, Int.reduceLE, Int.reduceEq, Int.reduceNeg, Int.reduceAdd, Int.reduceMul, Int.reduceSub, Int.reduceToNat, reduceCtorEq, dec_t, dec_f, ]
        refine aft_intro (by simp [rechecks, recheck, fresh, Fr.get, look, step, opd, r1, r2, Int.toNat_natCast]) ?_
        simp -implicitDefEqProofs -dsimp (disch := omega) only [go_sem, Nat.reduceEqDiff, ↓reduceIte, Nat.reduceAdd, Nat.reduceMul, Nat.reduceSub, Nat.reduceLT, Nat.reduceLeDiff, Int.reduceLT, Int.reduceLE, Int.reduceEq, Int.reduceNeg, Int.reduceAdd, Int.reduceMul, Int.reduceSub, Int.reduceToNat, reduceCtorEq, dec_t, dec_f, ]
        refine two' h6 _ fun q4 H7 h7 hq4 => ?_
        obtain rfl : q3 = q4 := by rw [Bool.eq_iff_iff]; exact hq3.trans hq4.symm
        simp -implicitDefEqProofs -dsimp (disch := omega) only [go_sem, Nat.reduceEqDiff, ↓reduceIte, Nat.reduceAdd, Nat.reduceMul, Nat.reduceSub, Nat.reduceLT, Nat.reduceLeDiff, Int.reduceLT, Int.reduceLE, Int.reduceEq, Int.reduceNeg, Int.reduceAdd, Int.reduceMul, Int.reduceSub, Int.reduceToNat, reduceCtorEq, dec_t, dec_f, eb3, w64, cadd1]
        subst hK2
        exact rnd_n (i + 1 - (j + 1)) (by omega) ⟨j + 1, rfl, by omega, rfl, h7⟩
    · obtain rfl : j = i + 1 := by omega
      simp -implicitDefEqProofs -dsimp (disch := omega) only [go_sem, Nat.reduceEqDiff, ↓reduceIte, Nat.reduceAdd, Nat.reduceMul, Nat.reduceSub, Nat.reduceLT, Nat.reduceLeDiff, Int.reduceLT, Int.reduceLE, Int.reduceEq, Int.reduceNeg, Int.reduceAdd, Int.reduceMul, Int.reduceSub, Int.reduceToNat, reduceCtorEq, dec_t, dec_f, burinlaw2_BitmapEqual_l1]
      subst hK2
      simp -implicitDefEqProofs -dsimp (disch := omega) only [go_sem, Nat.reduceEqDiff, ↓reduceIte, Nat.reduceAdd, Nat.reduceMul, Nat.reduceSub, Nat.reduceLT, Nat.reduceLeDiff, Int.reduceLT, Int.reduceLE, Int.reduceEq, Int.reduceNeg, Int.reduceAdd, Int.reduceMul, Int.reduceSub, Int.reduceToNat, reduceCtorEq, dec_t, dec_f, w64, cadd1]
      subst hK
      exact rnd_n (l.length - (i + 1)) (by omega) ⟨i + 1, rfl, by omega, by omega, rfl, h2⟩
  · rcases (show l.length ≤ i ∨ (i < l.length ∧ 6 ≤ i) by omega) with d | d <;>
    · simp -implicitDefEqProofs -dsimp (disch := omega) only [go_sem, Nat.reduceEqDiff, ↓reduceIte, Nat.reduceAdd, Nat.reduceMul, Nat.reduceSub, Nat.reduceLT, Nat.reduceLeDiff, Int.reduceLT, Int.reduceLE, Int.reduceEq, Int.reduceNeg, Int.reduceAdd, Int.reduceMul, Int.reduceSub, Int.reduceToNat, reduceCtorEq, dec_t, dec_f, burinlaw2_BitmapEqual_l0]
      subst hK
      simp -implicitDefEqProofs -dsimp (disch := omega) only [go_sem, Nat.reduceEqDiff, ↓reduceIte, Nat.reduceAdd, Nat.reduceMul, Nat.reduceSub, Nat.reduceLT, Nat.reduceLeDiff, Int.reduceLT, Int.reduceLE, Int.reduceEq, Int.reduceNeg, Int.reduceAdd, Int.reduceMul, Int.reduceSub, Int.reduceToNat, reduceCtorEq, dec_t, dec_f, ]
      refine wakes_ct hq h1 fun H4 => ?_
      simp -implicitDefEqProofs -dsimp (disch := omega) only [go_sem, Nat.reduceEqDiff, ↓reduceIte, Nat.reduceAdd, Nat.reduceMul, Nat.reduceSub, Nat.reduceLT, Nat.reduceLeDiff, Int.reduceLT, Int.reduceLE, Int.reduceEq, Int.reduceNeg, Int.reduceAdd, Int.reduceMul, Int.reduceSub, Int.reduceToNat, reduceCtorEq, dec_t, dec_f, ]
theorem law_BitmapEqual {P : Prog} (hp : HasL2 P) (hg : P 109 = some burinlaw2_BitmapEqual) (H : Heap) (cs : List V) (x : TD.Ty (.sl 40 bmTD)) (h : Is H (.sl 40 bmTD) cs x) : Call P 109 [argV (.sl 40 bmTD) cs] H fun o _ => o = .ret (.bool true) := by
  obtain ⟨v, l, rfl, h2, h3, h4⟩ := is_bms h
  exact bitmapEqual hp hg h2 h3 h4
end Go.Ab
