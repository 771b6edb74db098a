/- The law BitmapExact. Conditions: none. -/
import Derived.Test.YtdkgdneiilnppaaC6
set_option linter.all false
namespace Go.Ab
def ExF (p : Nat) (x : MpS) : Fr := ⟨[(1, .ptr (some (p, 0))), (3, x.lv), (4, x.rv), (6, .int .i64 (x.i : Nat))], []⟩
structure ExOk (H0 : Heap) (p : Nat) (v1 v2 : V) (n : Nat) (x : MpS) (H : Heap) : Prop where
  i : x.i ≤ n
  len : x.ML.length ≤ 4
  mt : Mt x.ML x.BL
  hs : Hs H (StL x.lv x.rv x.ML x.BL [Cel p [v1, v2], Bas H0])
def ExE (p : Nat) (n i fi ti b10 lb rb : Nat) (e : Int) (ex : List (Nat × V)) : Fr := ⟨(1, .ptr (some (p, 0))) :: (3, .sl (some (lb, 0)) n n 1) :: (4, .sl (some (rb, 0)) n n 3) :: (6, .int .i64 i) :: (8, .int .i64 fi) :: (9, .int .i64 ti) :: (10, .ptr (some (b10, 0))) :: (11, .int .i64 e) :: (12, .int .i64 e) :: ex, []⟩
def ExR (H0 : Heap) (p : Nat) (v1 v2 : V) (n i fi ti b10 lb rb : Nat) (ns : List V) (fr : Fr) (H : Heap) : Prop :=
  ∃ ML BL e ex, fr = ExE p n i fi ti b10 lb rb e ex ∧ Mt ML BL ∧ ML.length = n ∧ Hs H (StL (.sl (some (lb, 0)) n n 1) (.sl (some (rb, 0)) n n 3) ML BL [Cel b10 ns, Cel p [v1, v2], Bas H0])
set_option maxHeartbeats 1000000 in
theorem bitmapExact {P : Prog} (hq : HasL2 P) (hr : HasRef2 P) (hx : HasL2x P) {H : Heap} {v1 v2 : V} {l : List BmO} {ops : List OpX} (k1 : Arr H v1 3 l.length (bmCells l)) (k2 : ∀ o ∈ l, BmOk H o) (k3 : l.length ≤ 140737488351232)
    (q1 : Arr H v2 11 ops.length (opxCells ops)) (q2 : ∀ o ∈ ops, OpXOk o) (q3 : ops.length ≤ 140737488351232) : Call P 103 [.agg [v1, v2]] H fun o _ => o = .ret (.bool true) := by
  refine call_of hx.h_burinlaw2_BitmapExact rfl ?_
  have h1 := (Hs.start H).alloc (l := [v1, v2])
  have hc := h1.cel
  obtain ⟨a2, c2, e2, hv2⟩ := q1.shape
  simp -implicitDefEqProofs -dsimp (disch := omega) only [go_sem, Nat.reduceEqDiff, ↓reduceIte, Nat.reduceAdd, Nat.reduceMul, Nat.reduceSub, Nat.reduceLT, Nat.reduceLeDiff, Int.reduceLT, Int.reduceLE, Int.reduceEq, Int.reduceNeg, Int.reduceAdd, Int.reduceMul, Int.reduceSub, Int.reduceToNat, reduceCtorEq, dec_t, dec_f, ]
  generalize H.new _ = H1 at *
  generalize hp : H.next = p at *
  refine maps_ct hq hr hx h1 (by simp) k1 k2 k3 fun lv rv ML BL H2 m1 m2 h2 => ?_
  simp -implicitDefEqProofs -dsimp (disch := omega) only [go_sem, Nat.reduceEqDiff, ↓reduceIte, Nat.reduceAdd, Nat.reduceMul, Nat.reduceSub, Nat.reduceLT, Nat.reduceLeDiff, Int.reduceLT, Int.reduceLE, Int.reduceEq, Int.reduceNeg, Int.reduceAdd, Int.reduceMul, Int.reduceSub, Int.reduceToNat, reduceCtorEq, dec_t, dec_f, ]
  refine loop_dec (σ := MpS) (fun x => ops.length - x.i) (ExF p) (ExOk H p v1 v2 ops.length) (fun x H3 K ⟨hi, hl4, hm, h3⟩ hn hx' hrr => ?_) ⟨0, lv, rv, ML, BL⟩ H2 ⟨by simp, m2, m1, h2⟩
  clear hc h1 h2 m1 m2
  obtain ⟨i, lv, rv, ML, BL⟩ := x
  dsimp only at hi hl4 hm h3 hn
  have hml := hm.len
  have cp := rd_s (h3.celm (b := p) (l := [v1, v2]) (by simp [StL]))
  obtain ⟨la, lc, le, hlv⟩ := (h3.ownm (v := lv) (e := 1) (n := ML.length) (l := ML.map MR.c) (by simp [StL])).arr.shape
  by_cases c1 : i < ops.length ∧ i < 30 ∧ 0 < ML.length
  · obtain ⟨d1, d2, d3⟩ := c1
    obtain ⟨lb, rb, rfl, rfl⟩ := stShape h3 d3 hml
    obtain ⟨ob, oo, oc, rfl⟩ := q1.at0 (by omega)
    have ro := opx_at (q1.same (h3.bas (H0 := H) (by simp [StL])) fun _ _ h => h) d1
    have ko := q2 ops[i] (List.getElem_mem _)
    generalize ops[i] = o at *
    have g1 := h3.alloc (l := o.cs)
    unfold OpX.cs at ro g1
    simp -implicitDefEqProofs -dsimp (disch := omega) only [go_sem, Nat.reduceEqDiff, ↓reduceIte, Nat.reduceAdd, Nat.reduceMul, Nat.reduceSub, Nat.reduceLT, Nat.reduceLeDiff, Int.reduceLT, Int.reduceLE, Int.reduceEq, Int.reduceNeg, Int.reduceAdd, Int.reduceMul, Int.reduceSub, Int.reduceToNat, reduceCtorEq, dec_t, dec_f, burinlaw2_BitmapExact_l0, ExF, cp, Int.toNat_natCast, ro]
    generalize H3.new _ = H4 at *
    generalize H3.next = b7 at *
    have n1 : 0 < ML.length := d3
    refine within_ct hq.within ko.fr d3 (by omega) ?_
    have c7 := rd_s g1.cel
    simp -implicitDefEqProofs -dsimp (disch := omega) only [go_sem, Nat.reduceEqDiff, ↓reduceIte, Nat.reduceAdd, Nat.reduceMul, Nat.reduceSub, Nat.reduceLT, Nat.reduceLeDiff, Int.reduceLT, Int.reduceLE, Int.reduceEq, Int.reduceNeg, Int.reduceAdd, Int.reduceMul, Int.reduceSub, Int.reduceToNat, reduceCtorEq, dec_t, dec_f, c7]
    refine within_ct hq.within ko.to d3 (by omega) ?_
    obtain ⟨fi, hfi⟩ : ∃ f, (o.fr % (ML.length : Nat)).toNat = f := ⟨_, rfl⟩
    obtain ⟨ti, hti⟩ : ∃ f, (o.to % (ML.length : Nat)).toNat = f := ⟨_, rfl⟩
    have bf : fi < ML.length := by have := Int.emod_lt_of_pos o.fr (show (0 : Int) < ML.length by omega); have := Int.emod_nonneg o.fr (show (ML.length : Int) ≠ 0 by omega); omega
    have bt : ti < ML.length := by have := Int.emod_lt_of_pos o.to (show (0 : Int) < ML.length by omega); have := Int.emod_nonneg o.to (show (ML.length : Int) ≠ 0 by omega); omega
    rw [hfi, hti]
    have g2 := g1.alloc (l := [.int .i64 o.n0, .int .i64 o.n1, .int .i64 o.n2, .int .i64 o.n3, .int .i64 o.n4, .int .i64 o.n5, .int .i64 o.n6, .int .i64 o.n7])
    have r3 : rd H4 (some 8) b7 3 = some (.agg [.int .i64 o.n0, .int .i64 o.n1, .int .i64 o.n2, .int .i64 o.n3, .int .i64 o.n4, .int .i64 o.n5, .int .i64 o.n6, .int .i64 o.n7]) := by rw [rd_m g1.cel]; rfl
    have c7 := rd_s g2.p1.cel
    simp -implicitDefEqProofs -dsimp (disch := omega) only [go_sem, Nat.reduceEqDiff, ↓reduceIte, Nat.reduceAdd, Nat.reduceMul, Nat.reduceSub, Nat.reduceLT, Nat.reduceLeDiff, Int.reduceLT, Int.reduceLE, Int.reduceEq, Int.reduceNeg, Int.reduceAdd, Int.reduceMul, Int.reduceSub, Int.reduceToNat, reduceCtorEq, dec_t, dec_f, r3, c7]
    generalize H4.new _ = H5 at *
    generalize H4.next = b10 at *
    have g3 := st_in g2.tail2
    clear g1 g2 c7 r3 cp ro h3
    refine lif_allQ (ExR H p v1 (.sl (some (ob, oo)) ops.length oc 11) ML.length i fi ti b10 lb rb [.int .i64 o.n0, .int .i64 o.n1, .int .i64 o.n2, .int .i64 o.n3, .int .i64 o.n4, .int .i64 o.n5, .int .i64 o.n6, .int .i64 o.n7]) ?_ (fun fr' H6 hR => ?_)
    · obtain ⟨tm, tv, tw, th, tp, t1, t2⟩ := hm.at' bt
      obtain ⟨fm, fv, fw, fh, fp, f1, f2⟩ := hm.at' bf
      have ff := exSt g3 rfl (by omega) t1 t2
      have fg := exSt g3 rfl (by omega) f1 f2
      have done : ∀ ML' BL' e ex H', Mt ML' BL' → ML'.length = ML.length → Hs H' (StL (.sl (some (lb, 0)) ML.length ML.length 1) (.sl (some (rb, 0)) ML.length ML.length 3) ML' BL' [Cel b10 [.int .i64 o.n0, .int .i64 o.n1, .int .i64 o.n2, .int .i64 o.n3, .int .i64 o.n4, .int .i64 o.n5, .int .i64 o.n6, .int .i64 o.n7], Cel p [v1, .sl (some (ob, oo)) ops.length oc 11], Bas H]) →
        ExR H p v1 (.sl (some (ob, oo)) ops.length oc 11) ML.length i fi ti b10 lb rb [.int .i64 o.n0, .int .i64 o.n1, .int .i64 o.n2, .int .i64 o.n3, .int .i64 o.n4, .int .i64 o.n5, .int .i64 o.n6, .int .i64 o.n7] (ExE p ML.length i fi ti b10 lb rb e ex) H' := fun ML' BL' e ex H' a b c => ⟨ML', BL', e, ex, rfl, a, b, c⟩
      unfold ExE at done
      have zf := bmSz0 (g3.foc (2 + ML.length + fi) (stB' f2))
      by_cases e0 : o.d = 0
      · simp -implicitDefEqProofs -dsimp (disch := omega) only [go_sem, Nat.reduceEqDiff, ↓reduceIte, Nat.reduceAdd, Nat.reduceMul, Nat.reduceSub, Nat.reduceLT, Nat.reduceLeDiff, Int.reduceLT, Int.reduceLE, Int.reduceEq, Int.reduceNeg, Int.reduceAdd, Int.reduceMul, Int.reduceSub, Int.reduceToNat, reduceCtorEq, dec_t, dec_f, thn_n, Int.toNat_natCast, Nat.mul_one, ff]
        refine set_ct hq.bm (g3.foc (2 + ti) (stM' t1)) fun H6 g4 => ?_
        have g4 := exM t1 g4
        have ff := exSt g4 (by simp) (by omega) (List.getElem?_set_self bt) t2
        simp -implicitDefEqProofs -dsimp (disch := omega) only [go_sem, Nat.reduceEqDiff, ↓reduceIte, Nat.reduceAdd, Nat.reduceMul, Nat.reduceSub, Nat.reduceLT, Nat.reduceLeDiff, Int.reduceLT, Int.reduceLE, Int.reduceEq, Int.reduceNeg, Int.reduceAdd, Int.reduceMul, Int.reduceSub, Int.reduceToNat, reduceCtorEq, dec_t, dec_f, thn_n, Int.toNat_natCast, Nat.mul_one, ff]
        refine setB_ct hr hq.rz (g4.foc (2 + (ML.set ti _).length + ti) (stB' t2)) fun H7 g5 => ?_
        have g5 := exB t2 g5
        simp -implicitDefEqProofs -dsimp (disch := omega) only [go_sem, Nat.reduceEqDiff, ↓reduceIte, Nat.reduceAdd, Nat.reduceMul, Nat.reduceSub, Nat.reduceLT, Nat.reduceLeDiff, Int.reduceLT, Int.reduceLE, Int.reduceEq, Int.reduceNeg, Int.reduceAdd, Int.reduceMul, Int.reduceSub, Int.reduceToNat, reduceCtorEq, dec_t, dec_f, thn_n]
        exact done _ _ _ [] H7 (hm.set ti rfl) (by simp) g5
      by_cases e1 : o.d = 1
      · simp -implicitDefEqProofs -dsimp (disch := omega) only [go_sem, Nat.reduceEqDiff, ↓reduceIte, Nat.reduceAdd, Nat.reduceMul, Nat.reduceSub, Nat.reduceLT, Nat.reduceLeDiff, Int.reduceLT, Int.reduceLE, Int.reduceEq, Int.reduceNeg, Int.reduceAdd, Int.reduceMul, Int.reduceSub, Int.reduceToNat, reduceCtorEq, dec_t, dec_f, thn_n, Int.toNat_natCast, Nat.mul_one, ff]
        refine fill_ct hq.bm (g3.foc (2 + ti) (stM' t1)) ko.n0 ko.n1 ko.n2 ko.n3 fun H6 g4 => ?_
        have g4 := exM t1 g4
        have ff := exSt g4 (by simp) (by omega) (List.getElem?_set_self bt) t2
        simp -implicitDefEqProofs -dsimp (disch := omega) only [go_sem, Nat.reduceEqDiff, ↓reduceIte, Nat.reduceAdd, Nat.reduceMul, Nat.reduceSub, Nat.reduceLT, Nat.reduceLeDiff, Int.reduceLT, Int.reduceLE, Int.reduceEq, Int.reduceNeg, Int.reduceAdd, Int.reduceMul, Int.reduceSub, Int.reduceToNat, reduceCtorEq, dec_t, dec_f, thn_n, Int.toNat_natCast, Nat.mul_one, ff]
        refine fillB_ct hr hq.rz (g4.foc (2 + (ML.set ti _).length + ti) (stB' t2)) ko.n0 ko.n1 ko.n2 ko.n3 fun H7 g5 => ?_
        have g5 := exB t2 g5
        simp -implicitDefEqProofs -dsimp (disch := omega) only [go_sem, Nat.reduceEqDiff, ↓reduceIte, Nat.reduceAdd, Nat.reduceMul, Nat.reduceSub, Nat.reduceLT, Nat.reduceLeDiff, Int.reduceLT, Int.reduceLE, Int.reduceEq, Int.reduceNeg, Int.reduceAdd, Int.reduceMul, Int.reduceSub, Int.reduceToNat, reduceCtorEq, dec_t, dec_f, thn_n]
        exact done _ _ _ [] H7 (hm.set ti rfl) (by simp) g5
      by_cases e3 : o.d = 3
      · simp -implicitDefEqProofs -dsimp (disch := omega) only [go_sem, Nat.reduceEqDiff, ↓reduceIte, Nat.reduceAdd, Nat.reduceMul, Nat.reduceSub, Nat.reduceLT, Nat.reduceLeDiff, Int.reduceLT, Int.reduceLE, Int.reduceEq, Int.reduceNeg, Int.reduceAdd, Int.reduceMul, Int.reduceSub, Int.reduceToNat, reduceCtorEq, dec_t, dec_f, thn_n, Int.toNat_natCast, Nat.mul_one, ff]
        refine inv_ct hq.bm (g3.foc (2 + ti) (stM' t1)) fun H6 g4 => ?_
        have g4 := exM t1 g4
        have ff := exSt g4 (by simp) (by omega) (List.getElem?_set_self bt) t2
        simp -implicitDefEqProofs -dsimp (disch := omega) only [go_sem, Nat.reduceEqDiff, ↓reduceIte, Nat.reduceAdd, Nat.reduceMul, Nat.reduceSub, Nat.reduceLT, Nat.reduceLeDiff, Int.reduceLT, Int.reduceLE, Int.reduceEq, Int.reduceNeg, Int.reduceAdd, Int.reduceMul, Int.reduceSub, Int.reduceToNat, reduceCtorEq, dec_t, dec_f, thn_n, Int.toNat_natCast, Nat.mul_one, ff]
        refine invB_ct hr hq.rz (g4.foc (2 + (ML.set ti _).length + ti) (stB' t2)) fun H7 g5 => ?_
        have g5 := exB t2 g5
        simp -implicitDefEqProofs -dsimp (disch := omega) only [go_sem, Nat.reduceEqDiff, ↓reduceIte, Nat.reduceAdd, Nat.reduceMul, Nat.reduceSub, Nat.reduceLT, Nat.reduceLeDiff, Int.reduceLT, Int.reduceLE, Int.reduceEq, Int.reduceNeg, Int.reduceAdd, Int.reduceMul, Int.reduceSub, Int.reduceToNat, reduceCtorEq, dec_t, dec_f, thn_n]
        exact done _ _ _ [] H7 (hm.set ti rfl) (by simp) g5
      by_cases e2 : o.d = 2
      · simp -implicitDefEqProofs -dsimp (disch := omega) only [go_sem, Nat.reduceEqDiff, ↓reduceIte, Nat.reduceAdd, Nat.reduceMul, Nat.reduceSub, Nat.reduceLT, Nat.reduceLeDiff, Int.reduceLT, Int.reduceLE, Int.reduceEq, Int.reduceNeg, Int.reduceAdd, Int.reduceMul, Int.reduceSub, Int.reduceToNat, reduceCtorEq, dec_t, dec_f, thn_n, Int.toNat_natCast, Nat.mul_one, ff, fg]
        by_cases hft : fi = ti
        · subst hft
          cases t1.symm.trans f1
          cases t2.symm.trans f2
          refine blit_self hq.bm (g3.foc (2 + fi) (stM' t1)) ko.n0 ko.n1 ko.n2 ko.n3 ko.n4 ko.n5 ko.n6 fun H6 g4 => ?_
          have g4 := exM t1 g4
          have ff := exSt g4 (by simp) (by omega) (List.getElem?_set_self bt) t2
          simp -implicitDefEqProofs -dsimp (disch := omega) only [go_sem, Nat.reduceEqDiff, ↓reduceIte, Nat.reduceAdd, Nat.reduceMul, Nat.reduceSub, Nat.reduceLT, Nat.reduceLeDiff, Int.reduceLT, Int.reduceLE, Int.reduceEq, Int.reduceNeg, Int.reduceAdd, Int.reduceMul, Int.reduceSub, Int.reduceToNat, reduceCtorEq, dec_t, dec_f, thn_n, Int.toNat_natCast, Nat.mul_one, ff]
          have g4 := g4.foc (2 + (ML.set fi _).length + fi) (stB' t2)
          refine blitB_ct hr hq.rz g4 (src_bm (bmSz0 g4) (List.mem_cons_self ..)) ko.n0 ko.n1 ko.n2 ko.n3 ko.n4 ko.n5 fun H7 g5 => ?_
          have g5 := exB t2 g5
          simp -implicitDefEqProofs -dsimp (disch := omega) only [go_sem, Nat.reduceEqDiff, ↓reduceIte, Nat.reduceAdd, Nat.reduceMul, Nat.reduceSub, Nat.reduceLT, Nat.reduceLeDiff, Int.reduceLT, Int.reduceLE, Int.reduceEq, Int.reduceNeg, Int.reduceAdd, Int.reduceMul, Int.reduceSub, Int.reduceToNat, reduceCtorEq, dec_t, dec_f, thn_n]
          exact done _ _ _ [] H7 (hm.set fi rfl) (by simp) g5
        · refine blit_at hq.bm (2 + ti) (2 + fi) g3 (stM' t1) (stM' f1) (by omega) ko.n0 ko.n1 ko.n2 ko.n3 ko.n4 ko.n5 ko.n6 fun H6 g4 => ?_
          have g4 := exM2 t1 g4
          have ff := exSt g4 (by simp) (by omega) (List.getElem?_set_self bt) t2
          have fg := exSt g4 (by simp) (by omega) (List.getElem?_set_self bt) f2
          simp -implicitDefEqProofs -dsimp (disch := omega) only [go_sem, Nat.reduceEqDiff, ↓reduceIte, Nat.reduceAdd, Nat.reduceMul, Nat.reduceSub, Nat.reduceLT, Nat.reduceLeDiff, Int.reduceLT, Int.reduceLE, Int.reduceEq, Int.reduceNeg, Int.reduceAdd, Int.reduceMul, Int.reduceSub, Int.reduceToNat, reduceCtorEq, dec_t, dec_f, thn_n, Int.toNat_natCast, Nat.mul_one, ff, fg]
          have g4 := g4.foc (2 + (ML.set ti _).length + ti) (stB' t2)
          refine blitB_ct hr hq.rz g4 (src_bm zf (List.mem_cons_of_mem _ (memB f2 hft))) ko.n0 ko.n1 ko.n2 ko.n3 ko.n4 ko.n5 fun H7 g5 => ?_
          have g5 := exB t2 g5
          simp -implicitDefEqProofs -dsimp (disch := omega) only [go_sem, Nat.reduceEqDiff, ↓reduceIte, Nat.reduceAdd, Nat.reduceMul, Nat.reduceSub, Nat.reduceLT, Nat.reduceLeDiff, Int.reduceLT, Int.reduceLE, Int.reduceEq, Int.reduceNeg, Int.reduceAdd, Int.reduceMul, Int.reduceSub, Int.reduceToNat, reduceCtorEq, dec_t, dec_f, thn_n]
          exact done _ _ _ [] H7 (hm.set ti rfl) (by simp) g5
      by_cases e4 : o.d = 4
      · simp -implicitDefEqProofs -dsimp (disch := omega) only [go_sem, Nat.reduceEqDiff, ↓reduceIte, Nat.reduceAdd, Nat.reduceMul, Nat.reduceSub, Nat.reduceLT, Nat.reduceLeDiff, Int.reduceLT, Int.reduceLE, Int.reduceEq, Int.reduceNeg, Int.reduceAdd, Int.reduceMul, Int.reduceSub, Int.reduceToNat, reduceCtorEq, dec_t, dec_f, thn_n, Int.toNat_natCast, Nat.mul_one, ff, fg]
        refine mirror_ct hq.bm (g3.foc (2 + fi) (stM' f1)) fun c H6 g4 => ?_
        have g4 := Hs.unf1s (stM' f1) g4
        obtain ⟨H7, hw, g5⟩ := stNewM (r' := ⟨c, _, _, _⟩) g4 rfl t1
        have fg := exSt g5 (by simp) (by omega) (List.getElem?_set_self bt) f2
        simp -implicitDefEqProofs -dsimp (disch := omega) only [go_sem, Nat.reduceEqDiff, ↓reduceIte, Nat.reduceAdd, Nat.reduceMul, Nat.reduceSub, Nat.reduceLT, Nat.reduceLeDiff, Int.reduceLT, Int.reduceLE, Int.reduceEq, Int.reduceNeg, Int.reduceAdd, Int.reduceMul, Int.reduceSub, Int.reduceToNat, reduceCtorEq, dec_t, dec_f, thn_n, Int.toNat_natCast, Nat.mul_one, hw, fg]
        refine mirrorB_ct hr hq.rz g5 (src_bm zf (memB0 f2)) fun v' H8 g6 => ?_
        obtain ⟨vb, kv⟩ := bmV g6
        obtain ⟨H9, hw2, g7⟩ := stNewB (r' := ⟨v', _, _, _⟩) g6 (by omega) t2 (by rw [kv.val]; rfl)
        simp -implicitDefEqProofs -dsimp (disch := omega) only [go_sem, Nat.reduceEqDiff, ↓reduceIte, Nat.reduceAdd, Nat.reduceMul, Nat.reduceSub, Nat.reduceLT, Nat.reduceLeDiff, Int.reduceLT, Int.reduceLE, Int.reduceEq, Int.reduceNeg, Int.reduceAdd, Int.reduceMul, Int.reduceSub, Int.reduceToNat, reduceCtorEq, dec_t, dec_f, thn_n, Int.toNat_natCast, Nat.mul_one, hw2]
        exact done _ _ _ [] H9 (hm.set ti rfl) (by simp) g7
      by_cases e5 : o.d = 5
      · simp -implicitDefEqProofs -dsimp (disch := omega) only [go_sem, Nat.reduceEqDiff, ↓reduceIte, Nat.reduceAdd, Nat.reduceMul, Nat.reduceSub, Nat.reduceLT, Nat.reduceLeDiff, Int.reduceLT, Int.reduceLE, Int.reduceEq, Int.reduceNeg, Int.reduceAdd, Int.reduceMul, Int.reduceSub, Int.reduceToNat, reduceCtorEq, dec_t, dec_f, thn_n, Int.toNat_natCast, Nat.mul_one, ff, fg]
        refine turn_ct hq.bm (g3.foc (2 + fi) (stM' f1)) fun c H6 g4 => ?_
        have g4 := Hs.unf1s (stM' f1) g4
        obtain ⟨H7, hw, g5⟩ := stNewM (r' := ⟨c, _, _, _⟩) g4 rfl t1
        have fg := exSt g5 (by simp) (by omega) (List.getElem?_set_self bt) f2
        simp -implicitDefEqProofs -dsimp (disch := omega) only [go_sem, Nat.reduceEqDiff, ↓reduceIte, Nat.reduceAdd, Nat.reduceMul, Nat.reduceSub, Nat.reduceLT, Nat.reduceLeDiff, Int.reduceLT, Int.reduceLE, Int.reduceEq, Int.reduceNeg, Int.reduceAdd, Int.reduceMul, Int.reduceSub, Int.reduceToNat, reduceCtorEq, dec_t, dec_f, thn_n, Int.toNat_natCast, Nat.mul_one, hw, fg]
        refine turnB_ct hr hq.rz g5 (src_bm zf (memB0 f2)) fun v' H8 g6 => ?_
        obtain ⟨vb, kv⟩ := bmV g6
        obtain ⟨H9, hw2, g7⟩ := stNewB (r' := ⟨v', _, _, _⟩) g6 (by omega) t2 (by rw [kv.val]; rfl)
        simp -implicitDefEqProofs -dsimp (disch := omega) only [go_sem, Nat.reduceEqDiff, ↓reduceIte, Nat.reduceAdd, Nat.reduceMul, Nat.reduceSub, Nat.reduceLT, Nat.reduceLeDiff, Int.reduceLT, Int.reduceLE, Int.reduceEq, Int.reduceNeg, Int.reduceAdd, Int.reduceMul, Int.reduceSub, Int.reduceToNat, reduceCtorEq, dec_t, dec_f, thn_n, Int.toNat_natCast, Nat.mul_one, hw2]
        exact done _ _ _ [] H9 (hm.set ti rfl) (by simp) g7
      have r8 : rd H5 (some 8) b10 0 = some (.agg [.int .i64 o.n0, .int .i64 o.n1, .int .i64 o.n2, .int .i64 o.n3, .int .i64 o.n4, .int .i64 o.n5, .int .i64 o.n6, .int .i64 o.n7]) := by rw [rd_m (g3.celm (b := b10) (l := [.int .i64 o.n0, .int .i64 o.n1, .int .i64 o.n2, .int .i64 o.n3, .int .i64 o.n4, .int .i64 o.n5, .int .i64 o.n6, .int .i64 o.n7]) (by simp [StL]))]; rfl
      simp -implicitDefEqProofs -dsimp (disch := omega) only [go_sem, Nat.reduceEqDiff, ↓reduceIte, Nat.reduceAdd, Nat.reduceMul, Nat.reduceSub, Nat.reduceLT, Nat.reduceLeDiff, Int.reduceLT, Int.reduceLE, Int.reduceEq, Int.reduceNeg, Int.reduceAdd, Int.reduceMul, Int.reduceSub, Int.reduceToNat, reduceCtorEq, dec_t, dec_f, thn_n, Int.toNat_natCast, Nat.mul_one, ff, fg, r8]
      refine cropL_ct hq hr hx (g3.foc (2 + fi) (stM' f1)) (src_bm zf (List.mem_cons_of_mem _ (memBM f2 bf))) ko.n0 ko.n1 ko.n2 ko.n3 fun H6 g4 => ?_
      have g4 := Hs.unfs (stM' f1) g4
      simp -implicitDefEqProofs -dsimp (disch := omega) only [go_sem, Nat.reduceEqDiff, ↓reduceIte, Nat.reduceAdd, Nat.reduceMul, Nat.reduceSub, Nat.reduceLT, Nat.reduceLeDiff, Int.reduceLT, Int.reduceLE, Int.reduceEq, Int.reduceNeg, Int.reduceAdd, Int.reduceMul, Int.reduceSub, Int.reduceToNat, reduceCtorEq, dec_t, dec_f, thn_n]
      exact done _ _ 0 [_] H6 hm rfl g4
    · obtain ⟨ML', BL', e, ex, rfl, hm', hl', g4⟩ := hR
      obtain ⟨tm, tv, tw, th, tp, t1, t2⟩ := hm'.at' (i := ti) (by omega)
      obtain ⟨fm, fv, fw, fh, fp, f1, f2⟩ := hm'.at' (i := fi) (by omega)
      have hbl := hm'.len
      have ff := exSt g4 hl' (by omega) t1 t2
      have fg := exSt g4 hl' (by omega) f1 f2
      simp -implicitDefEqProofs -dsimp (disch := omega) only [go_sem, Nat.reduceEqDiff, ↓reduceIte, Nat.reduceAdd, Nat.reduceMul, Nat.reduceSub, Nat.reduceLT, Nat.reduceLeDiff, Int.reduceLT, Int.reduceLE, Int.reduceEq, Int.reduceNeg, Int.reduceAdd, Int.reduceMul, Int.reduceSub, Int.reduceToNat, reduceCtorEq, dec_t, dec_f, ExE, Int.toNat_natCast, Nat.mul_one, ff, fg]
      refine same_eq hq (2 + ti) g4 (stM' t1) (mem_erase (j := 2 + ML'.length + ti) (stB' t2) (by omega)) (fun _ _ _ _ => rfl) fun H7 g5 => ?_
      have ff := exSt g5 hl' (by omega) t1 t2
      have fg := exSt g5 hl' (by omega) f1 f2
      simp -implicitDefEqProofs -dsimp (disch := omega) only [go_sem, Nat.reduceEqDiff, ↓reduceIte, Nat.reduceAdd, Nat.reduceMul, Nat.reduceSub, Nat.reduceLT, Nat.reduceLeDiff, Int.reduceLT, Int.reduceLE, Int.reduceEq, Int.reduceNeg, Int.reduceAdd, Int.reduceMul, Int.reduceSub, Int.reduceToNat, reduceCtorEq, dec_t, dec_f, Int.toNat_natCast, Nat.mul_one, ff, fg]
      refine same_eq hq (2 + fi) g5 (stM' f1) (mem_erase (j := 2 + ML'.length + fi) (stB' f2) (by omega)) (fun _ _ _ _ => rfl) fun H8 g6 => ?_
      have ff := exSt g6 hl' (by omega) t1 t2
      have fg := exSt g6 hl' (by omega) f1 f2
      simp -implicitDefEqProofs -dsimp (disch := omega) only [go_sem, Nat.reduceEqDiff, ↓reduceIte, Nat.reduceAdd, Nat.reduceMul, Nat.reduceSub, Nat.reduceLT, Nat.reduceLeDiff, Int.reduceLT, Int.reduceLE, Int.reduceEq, Int.reduceNeg, Int.reduceAdd, Int.reduceMul, Int.reduceSub, Int.reduceToNat, reduceCtorEq, dec_t, dec_f, d_gre, Int.toNat_natCast, Nat.mul_one, ff, fg]
      refine get_ct hq.bm (g6.foc (2 + ti) (stM' t1)) ?_
      refine aft_intro (t := tag _) (by simp [rechecks, recheck, fresh, Fr.get, Fr.put, look, step, opd, ff, fg]) ?_
      simp -implicitDefEqProofs -dsimp (disch := omega) only [go_sem, Nat.reduceEqDiff, ↓reduceIte, Nat.reduceAdd, Nat.reduceMul, Nat.reduceSub, Nat.reduceLT, Nat.reduceLeDiff, Int.reduceLT, Int.reduceLE, Int.reduceEq, Int.reduceNeg, Int.reduceAdd, Int.reduceMul, Int.reduceSub, Int.reduceToNat, reduceCtorEq, dec_t, dec_f, ]
      have mb := List.mem_of_getElem? (stB' (lv := .sl (some (lb, 0)) ML.length ML.length 1) (rv := .sl (some (rb, 0)) ML.length ML.length 3) (ML := ML') (T := [Cel b10 [.int .i64 o.n0, .int .i64 o.n1, .int .i64 o.n2, .int .i64 o.n3, .int .i64 o.n4, .int .i64 o.n5, .int .i64 o.n6, .int .i64 o.n7], Cel p [v1, .sl (some (ob, oo)) ops.length oc 11], Bas H]) t2)
      refine getS_ct hq.rz g6 (src_bm (bmSz0 (g6.foc (2 + ML'.length + ti) (stB' t2))) mb) fun H9 g7 => ?_
      have ff := exSt g7 hl' (by omega) t1 t2
      have fg := exSt g7 hl' (by omega) f1 f2
      simp -implicitDefEqProofs -dsimp (disch := omega) only [go_sem, Nat.reduceEqDiff, ↓reduceIte, Nat.reduceAdd, Nat.reduceMul, Nat.reduceSub, Nat.reduceLT, Nat.reduceLeDiff, Int.reduceLT, Int.reduceLE, Int.reduceEq, Int.reduceNeg, Int.reduceAdd, Int.reduceMul, Int.reduceSub, Int.reduceToNat, reduceCtorEq, dec_t, dec_f, d_gre, Int.toNat_natCast, Nat.mul_one, ff, fg]
      refine count_ct hq.bm (g7.foc (2 + ti) (stM' t1)) ?_
      refine aft_intro (t := tag _) (by simp [rechecks, recheck, fresh, Fr.get, Fr.put, look, step, opd, ff, fg]) ?_
      simp -implicitDefEqProofs -dsimp (disch := omega) only [go_sem, Nat.reduceEqDiff, ↓reduceIte, Nat.reduceAdd, Nat.reduceMul, Nat.reduceSub, Nat.reduceLT, Nat.reduceLeDiff, Int.reduceLT, Int.reduceLE, Int.reduceEq, Int.reduceNeg, Int.reduceAdd, Int.reduceMul, Int.reduceSub, Int.reduceToNat, reduceCtorEq, dec_t, dec_f, ]
      refine countB_at hq.rz g7 mb fun H10 g8 => ?_
      simp -implicitDefEqProofs -dsimp (disch := omega) only [go_sem, Nat.reduceEqDiff, ↓reduceIte, Nat.reduceAdd, Nat.reduceMul, Nat.reduceSub, Nat.reduceLT, Nat.reduceLeDiff, Int.reduceLT, Int.reduceLE, Int.reduceEq, Int.reduceNeg, Int.reduceAdd, Int.reduceMul, Int.reduceSub, Int.reduceToNat, reduceCtorEq, dec_t, dec_f, w64, cadd1]
      have hn := hn ⟨i + 1, _, _, ML', BL'⟩ H10 (by dsimp only; omega) ⟨by dsimp only; omega, by dsimp only; omega, hm', (st_out g8).tail⟩
      exact hn
  · subst hlv
    rw [hv2] at cp
    rcases (show ¬ i < ops.length ∨ (i < ops.length ∧ ¬ i < 30) ∨ (i < ops.length ∧ i < 30 ∧ ¬ 0 < ML.length) by omega) with d | d | d <;>
    · simp -implicitDefEqProofs -dsimp (disch := omega) only [go_sem, Nat.reduceEqDiff, ↓reduceIte, Nat.reduceAdd, Nat.reduceMul, Nat.reduceSub, Nat.reduceLT, Nat.reduceLeDiff, Int.reduceLT, Int.reduceLE, Int.reduceEq, Int.reduceNeg, Int.reduceAdd, Int.reduceMul, Int.reduceSub, Int.reduceToNat, reduceCtorEq, dec_t, dec_f, burinlaw2_BitmapExact_l0, ExF, cp]
      rw [hx']
      simp -implicitDefEqProofs -dsimp (disch := omega) only [go_sem, Nat.reduceEqDiff, ↓reduceIte, Nat.reduceAdd, Nat.reduceMul, Nat.reduceSub, Nat.reduceLT, Nat.reduceLeDiff, Int.reduceLT, Int.reduceLE, Int.reduceEq, Int.reduceNeg, Int.reduceAdd, Int.reduceMul, Int.reduceSub, Int.reduceToNat, reduceCtorEq, dec_t, dec_f, ]
      refine wakes_ct hq h3 fun H4 => ?_
      simp -implicitDefEqProofs -dsimp (disch := omega) only [go_sem, Nat.reduceEqDiff, ↓reduceIte, Nat.reduceAdd, Nat.reduceMul, Nat.reduceSub, Nat.reduceLT, Nat.reduceLeDiff, Int.reduceLT, Int.reduceLE, Int.reduceEq, Int.reduceNeg, Int.reduceAdd, Int.reduceMul, Int.reduceSub, Int.reduceToNat, reduceCtorEq, dec_t, dec_f, ]
theorem law_BitmapExact {P : Prog} (hp : HasL2 P) (hr : HasRef2 P) (hx : HasL2x P) (H : Heap) (cs : List V) (x : TD.Ty scrTD) (h : Is H scrTD cs x) : Call P 103 [argV scrTD cs] H fun o _ => o = .ret (.bool true) := by
  obtain ⟨v1, v2, l, ops, rfl, k1, k2, k3, q1, q2, q3⟩ := is_scr h
  exact bitmapExact hp hr hx k1 k2 k3 q1 q2 q3
end Go.Ab
