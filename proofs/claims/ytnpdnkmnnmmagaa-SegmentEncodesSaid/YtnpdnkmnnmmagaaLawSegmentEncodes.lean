/- The law SegmentEncodes. Conditions: none. -/
import Derived.Test.YtnpdnkmnnmmagaaSv
import Derived.Test.YtnpdnkmnnmmagaaPL16Encodes
set_option linter.all false
namespace Go.Ab
theorem sg_rd {H : Heap} {b o c : Nat} {l : List SgO} (h : Arr H (.sl (some (b, o)) l.length c 7) 7 l.length (sgCells l)) {i : Nat} (hi : i < l.length) :
    rd H (some 7) b (o + i * 7) = some (.agg l[i].cs) ∧ ∀ k, k < 7 → rd H none b (o + i * 7 + k) = l[i].cs[k]? := by
  refine ⟨by rw [h.agg hi, sgCells_at hi], fun k hk => ?_⟩
  rw [h.rdm hi hk, ← sgCells_at hi, List.getElem?_take, if_pos hk, List.getElem?_drop]
def enF (v : V) (i : Nat) : Fr := ⟨[(0, v), (3, .int .i64 (i : Nat))], []⟩
set_option maxHeartbeats 4000000 in
theorem segEnc {P : Prog} (hp : HasSeg P) (hb : HasBits P) (hr : HasRf16 P) (hrb : HasRefBits P) (he : P 26 = some burinref0_Eq) (hc : P 27 = some burinref0_Copy) (hg : P 175 = some burinlaw16_SegmentEncodes) {H0 : Heap} {v : V} {l : List SgO}
    (hv : Arr H0 v 7 l.length (sgCells l)) (hl : ∀ o ∈ l, SgOk H0 o) : Call P 175 [v] H0 fun o _ => o = .ret (.bool true) := by
  refine call_of hg rfl ?_
  obtain ⟨va, vc, ve, hvs⟩ := hv.shape
  rw [hvs]
  simp -implicitDefEqProofs -dsimp (disch := omega) only [go_sem, Nat.reduceEqDiff, ↓reduceIte, Nat.reduceAdd, Nat.reduceMul, Nat.reduceSub, Nat.reduceLT, Nat.reduceLeDiff, Int.reduceLT, Int.reduceLE, Int.reduceEq, Int.reduceNeg, Int.reduceAdd, Int.reduceMul, Int.reduceSub, Int.reduceToNat, reduceCtorEq, dec_t, dec_f, ]
  rw [← hvs]
  refine loop_cnt (10 : Nat) (enF v) (fun i H => i ≤ l.length ∧ Hs H [Bas H0]) (fun i H K hi hS hn hx hy => ?_) 0 H0 (Nat.zero_le _) ⟨Nat.zero_le _, Hs.start H0⟩
  obtain ⟨hil, h⟩ := hS
  unfold enF at hn ⊢
  by_cases hlt : i < l.length ∧ i < 10
  rotate_left
  · rw [hvs]
    rcases (show ¬ i < l.length ∨ (i < l.length ∧ ¬ i < 10) by omega) with q | q
    all_goals
      simp -implicitDefEqProofs -dsimp (disch := omega) only [go_sem, Nat.reduceEqDiff, ↓reduceIte, Nat.reduceAdd, Nat.reduceMul, Nat.reduceSub, Nat.reduceLT, Nat.reduceLeDiff, Int.reduceLT, Int.reduceLE, Int.reduceEq, Int.reduceNeg, Int.reduceAdd, Int.reduceMul, Int.reduceSub, Int.reduceToNat, reduceCtorEq, dec_t, dec_f, burinlaw16_SegmentEncodes_l0]
      rw [hx]
      simp -implicitDefEqProofs -dsimp (disch := omega) only [go_sem, Nat.reduceEqDiff, ↓reduceIte, Nat.reduceAdd, Nat.reduceMul, Nat.reduceSub, Nat.reduceLT, Nat.reduceLeDiff, Int.reduceLT, Int.reduceLE, Int.reduceEq, Int.reduceNeg, Int.reduceAdd, Int.reduceMul, Int.reduceSub, Int.reduceToNat, reduceCtorEq, dec_t, dec_f, ]
      refine wakes16_ct hp hb he h fun H' _ => ?_
      simp -implicitDefEqProofs -dsimp (disch := omega) only [go_sem, Nat.reduceEqDiff, ↓reduceIte, Nat.reduceAdd, Nat.reduceMul, Nat.reduceSub, Nat.reduceLT, Nat.reduceLeDiff, Int.reduceLT, Int.reduceLE, Int.reduceEq, Int.reduceNeg, Int.reduceAdd, Int.reduceMul, Int.reduceSub, Int.reduceToNat, reduceCtorEq, dec_t, dec_f, ]
  obtain ⟨hlt, hlt2⟩ := hlt
  have hn := fun H' h => hn hlt2 H' ⟨by omega, h⟩
  obtain ⟨b, o, c, rfl⟩ := hv.at0 (by omega)
  clear hvs va vc ve
  have hcap := hv.cap.1
  have rr := fun H' (sm : Same (fun _ => False) H0 H') => sg_rd (hv.same sm fun _ _ h => h) hlt
  have ok := hl _ (List.getElem_mem hlt)
  generalize l[i] = q at *
  obtain ⟨s, v1, v2, v3⟩ := q
  unfold SgO.cs at rr
  unfold SgOk at ok
  dsimp only at ok rr
  obtain ⟨a1, c1, e1, hs1⟩ := ok.refs.shape
  obtain ⟨a2, c2, e2, hs2⟩ := ok.keep.shape
  obtain ⟨a3, c3, e3, hs3⟩ := ok.data.shape
  subst hs1 hs2 hs3
  have l1 := ok.ok.l1
  have l2 := ok.ok.l2
  have l3 := ok.ok.l3
  obtain ⟨r7, r1⟩ := rr H h.base
  have r3 := r1 3 (by omega)
  have r6 := r1 6 (by omega)
  rw [show (s.cells (.sl a1 s.refs.length c1 e1) (.sl a2 s.keep.length c2 e2) (.sl a3 s.data.length c3 e3))[3]? = some (.sl a1 s.refs.length c1 e1) from rfl] at r3
  rw [show (s.cells (.sl a1 s.refs.length c1 e1) (.sl a2 s.keep.length c2 e2) (.sl a3 s.data.length c3 e3))[6]? = some (.sl a3 s.data.length c3 e3) from rfl] at r6
  rcases (show 5000 < s.refs.length ∨ (¬ 5000 < s.refs.length ∧ 100000 < s.data.length) ∨ (¬ 5000 < s.refs.length ∧ ¬ 100000 < s.data.length) by omega) with q | q | ⟨q1, q2⟩
  · simp -implicitDefEqProofs -dsimp (disch := omega) only [go_sem, Nat.reduceEqDiff, ↓reduceIte, Nat.reduceAdd, Nat.reduceMul, Nat.reduceSub, Nat.reduceLT, Nat.reduceLeDiff, Int.reduceLT, Int.reduceLE, Int.reduceEq, Int.reduceNeg, Int.reduceAdd, Int.reduceMul, Int.reduceSub, Int.reduceToNat, reduceCtorEq, dec_t, dec_f, burinlaw16_SegmentEncodes_l0, Int.toNat_natCast, r3, r6, w64, cadd1]
    exact hn H h
  · simp -implicitDefEqProofs -dsimp (disch := omega) only [go_sem, Nat.reduceEqDiff, ↓reduceIte, Nat.reduceAdd, Nat.reduceMul, Nat.reduceSub, Nat.reduceLT, Nat.reduceLeDiff, Int.reduceLT, Int.reduceLE, Int.reduceEq, Int.reduceNeg, Int.reduceAdd, Int.reduceMul, Int.reduceSub, Int.reduceToNat, reduceCtorEq, dec_t, dec_f, burinlaw16_SegmentEncodes_l0, Int.toNat_natCast, r3, r6, w64, cadd1]
    exact hn H h
  have esl : ((i + 1 : Nat) : Int).toNat - (i : Int).toNat = 1 := by omega
  have ei1 : (i : Int) + 1 = ((i + 1 : Nat) : Int) := by omega
  simp -implicitDefEqProofs -dsimp (disch := omega) only [go_sem, Nat.reduceEqDiff, ↓reduceIte, Nat.reduceAdd, Nat.reduceMul, Nat.reduceSub, Nat.reduceLT, Nat.reduceLeDiff, Int.reduceLT, Int.reduceLE, Int.reduceEq, Int.reduceNeg, Int.reduceAdd, Int.reduceMul, Int.reduceSub, Int.reduceToNat, reduceCtorEq, dec_t, dec_f, burinlaw16_SegmentEncodes_l0, Int.toNat_natCast, r3, r6, w64, ei1, Nat.add_sub_cancel_left]
  refine copy1_ct (s := s) (v1 := .sl a1 s.refs.length c1 e1) (v2 := .sl a2 s.keep.length c2 e2) (v3 := .sl a3 s.data.length c3 e3) hr hc (by omega) l2 (by omega) h (fun H' h => ⟨(rr H' h.base).1, SgR.same ok h.base⟩) fun w w1 w2 w3 H2 g2 => ?_
  obtain ⟨wb, wo, wc, rfl⟩ := g2.own.arr.at0 (by omega)
  have rw0 := g2.own.arr.agg (i := 0) (by omega)
  rw [Nat.zero_mul, Nat.add_zero, List.drop_zero, show (s.cells w1 w2 w3).take 7 = s.cells w1 w2 w3 from rfl] at rw0
  obtain ⟨x1, y1, z1, hw1⟩ := (Hs.cutl (A := [_]) g2).own.arr.shape
  obtain ⟨x2, y2, z2, hw2⟩ := (Hs.cutl (A := [_, _]) g2).own.arr.shape
  obtain ⟨x3, y3, z3, hw3⟩ := (Hs.cutl (A := [_, _, _]) g2).own.arr.shape
  subst hw1 hw2 hw3
  have g3 := g2.alloc (l := s.cells (.sl x1 s.refs.length y1 z1) (.sl x2 s.keep.length y2 z2) (.sl x3 s.data.length y3 z3))
  have c4 := rd_m g3.cel 7
  unfold Sg.cells at rw0 g3 c4
  simp -implicitDefEqProofs -dsimp (disch := omega) only [go_sem, Nat.reduceEqDiff, ↓reduceIte, Nat.reduceAdd, Nat.reduceMul, Nat.reduceSub, Nat.reduceLT, Nat.reduceLeDiff, Int.reduceLT, Int.reduceLE, Int.reduceEq, Int.reduceNeg, Int.reduceAdd, Int.reduceMul, Int.reduceSub, Int.reduceToNat, reduceCtorEq, dec_t, dec_f, Int.toNat_natCast, Nat.zero_mul, Nat.add_zero, rw0, c4]
  generalize H2.new _ = H3 at *
  generalize H2.next = b4 at *
  refine encode_ct (s := s) (v1 := .sl x1 s.refs.length y1 z1) (v2 := .sl x2 s.keep.length y2 z2) (v3 := .sl x3 s.data.length y3 z3) hp hb (fun H' h => sgT_r ok.ok [_, _] h) g3 (fun hm f1 H4 g4 => ?_) (fun hm H4 g4 => ?_)
  · obtain ⟨f1a, f1c, f1e, hf1⟩ := g4.own.arr.shape
    obtain ⟨r7, _⟩ := rr _ (Hs.cutl (A := [_, _, _, _, _, _]) g4).base
    simp -implicitDefEqProofs -dsimp (disch := omega) only [go_sem, Nat.reduceEqDiff, ↓reduceIte, Nat.reduceAdd, Nat.reduceMul, Nat.reduceSub, Nat.reduceLT, Nat.reduceLeDiff, Int.reduceLT, Int.reduceLE, Int.reduceEq, Int.reduceNeg, Int.reduceAdd, Int.reduceMul, Int.reduceSub, Int.reduceToNat, reduceCtorEq, dec_t, dec_f, Int.toNat_natCast, r7]
    refine encR_ct (s := s) (v1 := .sl a1 s.refs.length c1 e1) (v2 := .sl a2 s.keep.length c2 e2) (v3 := .sl a3 s.data.length c3 e3) hr hrb (fun H' h => SgR.same ok (Hs.cutl (A := [_, _, _, _, _, _]) h).base) g4 (fun _ f2 H5 gF => ?_) (fun k => absurd hm k)
    have hl := hdr_len hm
    have c4 := rd_m (Hs.p2 gF).cel 7
    have sb := (Hs.cutl (A := [_, _, _, _, _, _, _]) gF).base
    obtain ⟨r7, _⟩ := rr _ sb
    simp -implicitDefEqProofs -dsimp (disch := omega) only [go_sem, Nat.reduceEqDiff, ↓reduceIte, Nat.reduceAdd, Nat.reduceMul, Nat.reduceSub, Nat.reduceLT, Nat.reduceLeDiff, Int.reduceLT, Int.reduceLE, Int.reduceEq, Int.reduceNeg, Int.reduceAdd, Int.reduceMul, Int.reduceSub, Int.reduceToNat, reduceCtorEq, dec_t, dec_f, c4, Int.toNat_natCast, r7]
    refine check_ct hp (sgT_r ok.ok [_, _, _, _] gF) fun H7 s7 => ?_
    have gG := gF.keep s7
    have sb7 := (Hs.cutl (A := [_, _, _, _, _, _, _]) gG).base
    obtain ⟨r7, _⟩ := rr _ sb7
    rw [mayB_t hm]
    simp -implicitDefEqProofs -dsimp (disch := omega) only [go_sem, Nat.reduceEqDiff, ↓reduceIte, Nat.reduceAdd, Nat.reduceMul, Nat.reduceSub, Nat.reduceLT, Nat.reduceLeDiff, Int.reduceLT, Int.reduceLE, Int.reduceEq, Int.reduceNeg, Int.reduceAdd, Int.reduceMul, Int.reduceSub, Int.reduceToNat, reduceCtorEq, dec_t, dec_f, Int.toNat_natCast]
    refine aft_intro (t := tag _) (by simp [rechecks, recheck, fresh, Fr.get, Fr.put, look, step, opd, r7]) ?_
    simp -implicitDefEqProofs -dsimp (disch := omega) only [go_sem, Nat.reduceEqDiff, ↓reduceIte, Nat.reduceAdd, Nat.reduceMul, Nat.reduceSub, Nat.reduceLT, Nat.reduceLeDiff, Int.reduceLT, Int.reduceLE, Int.reduceEq, Int.reduceNeg, Int.reduceAdd, Int.reduceMul, Int.reduceSub, Int.reduceToNat, reduceCtorEq, dec_t, dec_f, ]
    refine mayR_ct hr (SgR.same ok sb7) fun H8 s8 => ?_
    have gH := gG.keep s8
    have sb8 := (Hs.cutl (A := [_, _, _, _, _, _, _]) gH).base
    obtain ⟨r7, _⟩ := rr _ sb8
    have c4 := rd_m (Hs.p2 gH).cel 7
    rw [mayB_t hm]
    simp -implicitDefEqProofs -dsimp (disch := omega) only [go_sem, Nat.reduceEqDiff, ↓reduceIte, Nat.reduceAdd, Nat.reduceMul, Nat.reduceSub, Nat.reduceLT, Nat.reduceLeDiff, Int.reduceLT, Int.reduceLE, Int.reduceEq, Int.reduceNeg, Int.reduceAdd, Int.reduceMul, Int.reduceSub, Int.reduceToNat, reduceCtorEq, dec_t, dec_f, c4, Int.toNat_natCast, r7, beq_self_eq_true]
    refine eq_ct he ((Hs.p1 gH).own.arr) (gH.own.arr) (by omega) ?_
    rw [dec_t rfl]
    simp -implicitDefEqProofs -dsimp (disch := omega) only [go_sem, Nat.reduceEqDiff, ↓reduceIte, Nat.reduceAdd, Nat.reduceMul, Nat.reduceSub, Nat.reduceLT, Nat.reduceLeDiff, Int.reduceLT, Int.reduceLE, Int.reduceEq, Int.reduceNeg, Int.reduceAdd, Int.reduceMul, Int.reduceSub, Int.reduceToNat, reduceCtorEq, dec_t, dec_f, c4, Int.toNat_natCast, r7]
    refine eqSeg_ct (s := s) (t := s) hp he (sgT_r ok.ok [_, _, _, _] gH) (SgR.same ok sb8) fun H9 s9 => ?_
    rw [dec_t ⟨rfl, rfl, rfl, rfl, rfl, rfl, rfl⟩]
    simp -implicitDefEqProofs -dsimp (disch := omega) only [go_sem, Nat.reduceEqDiff, ↓reduceIte, Nat.reduceAdd, Nat.reduceMul, Nat.reduceSub, Nat.reduceLT, Nat.reduceLeDiff, Int.reduceLT, Int.reduceLE, Int.reduceEq, Int.reduceNeg, Int.reduceAdd, Int.reduceMul, Int.reduceSub, Int.reduceToNat, reduceCtorEq, dec_t, dec_f, w64, cadd1]
    exact hn _ (Hs.cutl (A := [_, _, _, _, _, _, _]) (gH.keep s9))
  · obtain ⟨r7, _⟩ := rr _ (Hs.cutl (A := [_, _, _, _, _]) g4).base
    simp -implicitDefEqProofs -dsimp (disch := omega) only [go_sem, Nat.reduceEqDiff, ↓reduceIte, Nat.reduceAdd, Nat.reduceMul, Nat.reduceSub, Nat.reduceLT, Nat.reduceLeDiff, Int.reduceLT, Int.reduceLE, Int.reduceEq, Int.reduceNeg, Int.reduceAdd, Int.reduceMul, Int.reduceSub, Int.reduceToNat, reduceCtorEq, dec_t, dec_f, Int.toNat_natCast, r7]
    refine encR_ct (s := s) (v1 := .sl a1 s.refs.length c1 e1) (v2 := .sl a2 s.keep.length c2 e2) (v3 := .sl a3 s.data.length c3 e3) hr hrb (fun H' h => SgR.same ok (Hs.cutl (A := [_, _, _, _, _]) h).base) g4 (fun k => absurd k hm) (fun _ H5 gF => ?_)
    have c4 := rd_m (gF).cel 7
    have sb := (Hs.cutl (A := [_, _, _, _, _]) gF).base
    obtain ⟨r7, _⟩ := rr _ sb
    simp -implicitDefEqProofs -dsimp (disch := omega) only [go_sem, Nat.reduceEqDiff, ↓reduceIte, Nat.reduceAdd, Nat.reduceMul, Nat.reduceSub, Nat.reduceLT, Nat.reduceLeDiff, Int.reduceLT, Int.reduceLE, Int.reduceEq, Int.reduceNeg, Int.reduceAdd, Int.reduceMul, Int.reduceSub, Int.reduceToNat, reduceCtorEq, dec_t, dec_f, c4, Int.toNat_natCast, r7]
    refine check_ct hp (sgT_r ok.ok [_, _] gF) fun H7 s7 => ?_
    have gG := gF.keep s7
    have sb7 := (Hs.cutl (A := [_, _, _, _, _]) gG).base
    obtain ⟨r7, _⟩ := rr _ sb7
    rw [mayB_f hm]
    simp -implicitDefEqProofs -dsimp (disch := omega) only [go_sem, Nat.reduceEqDiff, ↓reduceIte, Nat.reduceAdd, Nat.reduceMul, Nat.reduceSub, Nat.reduceLT, Nat.reduceLeDiff, Int.reduceLT, Int.reduceLE, Int.reduceEq, Int.reduceNeg, Int.reduceAdd, Int.reduceMul, Int.reduceSub, Int.reduceToNat, reduceCtorEq, dec_t, dec_f, Int.toNat_natCast]
    refine aft_intro (t := tag _) (by simp [rechecks, recheck, fresh, Fr.get, Fr.put, look, step, opd, r7]) ?_
    simp -implicitDefEqProofs -dsimp (disch := omega) only [go_sem, Nat.reduceEqDiff, ↓reduceIte, Nat.reduceAdd, Nat.reduceMul, Nat.reduceSub, Nat.reduceLT, Nat.reduceLeDiff, Int.reduceLT, Int.reduceLE, Int.reduceEq, Int.reduceNeg, Int.reduceAdd, Int.reduceMul, Int.reduceSub, Int.reduceToNat, reduceCtorEq, dec_t, dec_f, ]
    refine mayR_ct hr (SgR.same ok sb7) fun H8 s8 => ?_
    have gH := gG.keep s8
    have sb8 := (Hs.cutl (A := [_, _, _, _, _]) gH).base
    obtain ⟨r7, _⟩ := rr _ sb8
    have c4 := rd_m (gH).cel 7
    rw [mayB_f hm]
    simp -implicitDefEqProofs -dsimp (disch := omega) only [go_sem, Nat.reduceEqDiff, ↓reduceIte, Nat.reduceAdd, Nat.reduceMul, Nat.reduceSub, Nat.reduceLT, Nat.reduceLeDiff, Int.reduceLT, Int.reduceLE, Int.reduceEq, Int.reduceNeg, Int.reduceAdd, Int.reduceMul, Int.reduceSub, Int.reduceToNat, reduceCtorEq, dec_t, dec_f, c4, Int.toNat_natCast, r7, beq_self_eq_true]
    refine eq_ct he (bs := []) (cs := []) (Or.inl ⟨rfl, rfl, rfl⟩) (Or.inl ⟨rfl, rfl, rfl⟩) (by simp) ?_
    rw [dec_t rfl]
    simp -implicitDefEqProofs -dsimp (disch := omega) only [go_sem, Nat.reduceEqDiff, ↓reduceIte, Nat.reduceAdd, Nat.reduceMul, Nat.reduceSub, Nat.reduceLT, Nat.reduceLeDiff, Int.reduceLT, Int.reduceLE, Int.reduceEq, Int.reduceNeg, Int.reduceAdd, Int.reduceMul, Int.reduceSub, Int.reduceToNat, reduceCtorEq, dec_t, dec_f, c4, Int.toNat_natCast, r7]
    refine eqSeg_ct (s := s) (t := s) hp he (sgT_r ok.ok [_, _] gH) (SgR.same ok sb8) fun H9 s9 => ?_
    rw [dec_t ⟨rfl, rfl, rfl, rfl, rfl, rfl, rfl⟩]
    simp -implicitDefEqProofs -dsimp (disch := omega) only [go_sem, Nat.reduceEqDiff, ↓reduceIte, Nat.reduceAdd, Nat.reduceMul, Nat.reduceSub, Nat.reduceLT, Nat.reduceLeDiff, Int.reduceLT, Int.reduceLE, Int.reduceEq, Int.reduceNeg, Int.reduceAdd, Int.reduceMul, Int.reduceSub, Int.reduceToNat, reduceCtorEq, dec_t, dec_f, w64, cadd1]
    exact hn _ (Hs.cutl (A := [_, _, _, _, _]) (gH.keep s9))
theorem law_SegmentEncodes {P : Prog} (hp : HasSeg P) (hb : HasBits P) (hr : HasRf16 P) (hrb : HasRefBits P) (he : P 26 = some burinref0_Eq) (hc : P 27 = some burinref0_Copy) (hg : P 175 = some burinlaw16_SegmentEncodes) (H : Heap) (cs : List V) (x : TD.Ty (.sl 104 segTD)) (h : Is H (.sl 104 segTD) cs x) :
    Call P 175 [argV (.sl 104 segTD) cs] H fun o _ => o = .ret (.bool true) := by
  obtain ⟨v, l, rfl, k1, k2, k3⟩ := is_segs h
  exact segEnc hp hb hr hrb he hc hg k1 k2
end Go.Ab
