/- The law SegmentBack. Conditions: none. -/
import Derived.Test.YtnpdnkmnnmmagaaSs
set_option linter.all false
namespace Go.Ab
def bk0F (b1 i : Nat) : Fr := ⟨[(1, .ptr (some (b1, 0))), (3, .int .i64 (i : Nat))], []⟩
theorem with_nil {s : Sg} (h : s.Ok) : (withData s []).Ok := ⟨h.num, h.kind, h.page, h.refs, fun _ h => (nomatch h), h.l1, h.l2, by simp [withData]⟩
set_option maxHeartbeats 2000000 in
theorem segBack {P : Prog} (hp : HasSeg P) (hb : HasBits P) (he : P 26 = some burinref0_Eq) (hc : P 27 = some burinref0_Copy) (hg : P 176 = some burinlaw16_SegmentBack) {H0 : Heap} {lv av mv : V} {l : List SgO} {x y : List Nat}
    (hv : Arr H0 lv 7 l.length (sgCells l)) (hl : ∀ o ∈ l, SgOk H0 o) (hx : Arr H0 av 1 x.length (u8s x)) (hxs : ∀ b ∈ x, b < 256) (hxl : x.length ≤ 140737488351232) (hy : Arr H0 mv 1 y.length (u8s y)) (hys : ∀ b ∈ y, b < 256) (hyl : y.length ≤ 140737488351232) :
    Call P 176 [.agg [lv, av, mv]] H0 fun o _ => o = .ret (.bool true) := by
  refine call_of hg rfl ?_
  obtain ⟨la, lc, le, hls⟩ := hv.shape
  obtain ⟨aa, ac, ae, has⟩ := hx.shape
  obtain ⟨ma, mc, me, hms⟩ := hy.shape
  have g0 := (Hs.start H0).alloc (l := [lv, av, mv])
  have r0 := rd_s g0.cel
  rw [hls, has, hms] at g0 r0 ⊢
  by_cases big : 2000 < x.length + y.length
  · simp -implicitDefEqProofs -dsimp (disch := omega) only [go_sem, Nat.reduceEqDiff, ↓reduceIte, Nat.reduceAdd, Nat.reduceMul, Nat.reduceSub, Nat.reduceLT, Nat.reduceLeDiff, Int.reduceLT, Int.reduceLE, Int.reduceEq, Int.reduceNeg, Int.reduceAdd, Int.reduceMul, Int.reduceSub, Int.reduceToNat, reduceCtorEq, dec_t, dec_f, r0, w64]
    refine wakes16_ct hp hb he g0 fun H' _ => ?_
    simp -implicitDefEqProofs -dsimp (disch := omega) only [go_sem, Nat.reduceEqDiff, ↓reduceIte, Nat.reduceAdd, Nat.reduceMul, Nat.reduceSub, Nat.reduceLT, Nat.reduceLeDiff, Int.reduceLT, Int.reduceLE, Int.reduceEq, Int.reduceNeg, Int.reduceAdd, Int.reduceMul, Int.reduceSub, Int.reduceToNat, reduceCtorEq, dec_t, dec_f, ]
  simp -implicitDefEqProofs -dsimp (disch := omega) only [go_sem, Nat.reduceEqDiff, ↓reduceIte, Nat.reduceAdd, Nat.reduceMul, Nat.reduceSub, Nat.reduceLT, Nat.reduceLeDiff, Int.reduceLT, Int.reduceLE, Int.reduceEq, Int.reduceNeg, Int.reduceAdd, Int.reduceMul, Int.reduceSub, Int.reduceToNat, reduceCtorEq, dec_t, dec_f, r0, w64]
  clear r0
  generalize H0.new _ = H1 at *
  generalize H0.next = b1 at *
  rw [← hls, ← has, ← hms] at g0
  refine loop_cnt (10 : Nat) (bk0F b1) (fun i H => i ≤ l.length ∧ Hs H [Cel b1 [lv, av, mv], Bas H0]) (fun i H K hi hS hn hx1 hx2 => ?_) 0 H1 (Nat.zero_le _) ⟨Nat.zero_le _, g0⟩
  obtain ⟨hil, h⟩ := hS
  have rc := rd_s h.cel
  unfold bk0F at hn ⊢
  by_cases hlt : i < l.length ∧ i < 10
  rotate_left
  · rw [hls] at rc
    rcases (show ¬ i < l.length ∨ (i < l.length ∧ ¬ i < 10) by omega) with q | q
    all_goals
      simp -implicitDefEqProofs -dsimp (disch := omega) only [go_sem, Nat.reduceEqDiff, ↓reduceIte, Nat.reduceAdd, Nat.reduceMul, Nat.reduceSub, Nat.reduceLT, Nat.reduceLeDiff, Int.reduceLT, Int.reduceLE, Int.reduceEq, Int.reduceNeg, Int.reduceAdd, Int.reduceMul, Int.reduceSub, Int.reduceToNat, reduceCtorEq, dec_t, dec_f, burinlaw16_SegmentBack_l0, rc]
      rw [hx1]
      simp -implicitDefEqProofs -dsimp (disch := omega) only [go_sem, Nat.reduceEqDiff, ↓reduceIte, Nat.reduceAdd, Nat.reduceMul, Nat.reduceSub, Nat.reduceLT, Nat.reduceLeDiff, Int.reduceLT, Int.reduceLE, Int.reduceEq, Int.reduceNeg, Int.reduceAdd, Int.reduceMul, Int.reduceSub, Int.reduceToNat, reduceCtorEq, dec_t, dec_f, ]
      refine wakes16_ct hp hb he h fun H' _ => ?_
      simp -implicitDefEqProofs -dsimp (disch := omega) only [go_sem, Nat.reduceEqDiff, ↓reduceIte, Nat.reduceAdd, Nat.reduceMul, Nat.reduceSub, Nat.reduceLT, Nat.reduceLeDiff, Int.reduceLT, Int.reduceLE, Int.reduceEq, Int.reduceNeg, Int.reduceAdd, Int.reduceMul, Int.reduceSub, Int.reduceToNat, reduceCtorEq, dec_t, dec_f, ]
  obtain ⟨hlt, hlt2⟩ := hlt
  have hn := fun H' h => hn hlt2 H' ⟨by omega, h⟩
  obtain ⟨b, o, c, rfl⟩ := hv.at0 (by omega)
  clear hls la lc le
  have rr := fun H' (sm : Same (fun _ => False) H0 H') => sg_rd (hv.same sm fun _ _ h => h) hlt
  have ok := hl _ (List.getElem_mem hlt)
  generalize l[i] = q at *
  obtain ⟨s, v1, v2, v3⟩ := q
  unfold SgO.cs at rr
  unfold SgOk at ok
  dsimp only at ok rr
  obtain ⟨a1, c1, e1, hs1⟩ := ok.refs.shape
  obtain ⟨a2, c2, e2, hs2⟩ := ok.keep.shape
  obtain ⟨a3, c3, e3, hs3⟩ := ok.data.shape
  subst hs1 hs2 hs3
  have l1 := ok.ok.l1
  have l3 := ok.ok.l3
  obtain ⟨r7, r1⟩ := rr H h.tail.base
  have r3 := r1 3 (by omega)
  have r6 := r1 6 (by omega)
  rw [show (s.cells (.sl a1 s.refs.length c1 e1) (.sl a2 s.keep.length c2 e2) (.sl a3 s.data.length c3 e3))[3]? = some (.sl a1 s.refs.length c1 e1) from rfl] at r3
  rw [show (s.cells (.sl a1 s.refs.length c1 e1) (.sl a2 s.keep.length c2 e2) (.sl a3 s.data.length c3 e3))[6]? = some (.sl a3 s.data.length c3 e3) from rfl] at r6
  rcases (show 2000 < s.refs.length ∨ (¬ 2000 < s.refs.length ∧ 100000 < s.data.length) ∨ (¬ 2000 < s.refs.length ∧ ¬ 100000 < s.data.length) by omega) with q | q | ⟨q1, q2⟩
  · simp -implicitDefEqProofs -dsimp (disch := omega) only [go_sem, Nat.reduceEqDiff, ↓reduceIte, Nat.reduceAdd, Nat.reduceMul, Nat.reduceSub, Nat.reduceLT, Nat.reduceLeDiff, Int.reduceLT, Int.reduceLE, Int.reduceEq, Int.reduceNeg, Int.reduceAdd, Int.reduceMul, Int.reduceSub, Int.reduceToNat, reduceCtorEq, dec_t, dec_f, burinlaw16_SegmentBack_l0, rc, Int.toNat_natCast, r3, r6, w64, cadd1]
    exact hn H h
  · simp -implicitDefEqProofs -dsimp (disch := omega) only [go_sem, Nat.reduceEqDiff, ↓reduceIte, Nat.reduceAdd, Nat.reduceMul, Nat.reduceSub, Nat.reduceLT, Nat.reduceLeDiff, Int.reduceLT, Int.reduceLE, Int.reduceEq, Int.reduceNeg, Int.reduceAdd, Int.reduceMul, Int.reduceSub, Int.reduceToNat, reduceCtorEq, dec_t, dec_f, burinlaw16_SegmentBack_l0, rc, Int.toNat_natCast, r3, r6, w64, cadd1]
    exact hn H h
  simp -implicitDefEqProofs -dsimp (disch := omega) only [go_sem, Nat.reduceEqDiff, ↓reduceIte, Nat.reduceAdd, Nat.reduceMul, Nat.reduceSub, Nat.reduceLT, Nat.reduceLeDiff, Int.reduceLT, Int.reduceLE, Int.reduceEq, Int.reduceNeg, Int.reduceAdd, Int.reduceMul, Int.reduceSub, Int.reduceToNat, reduceCtorEq, dec_t, dec_f, burinlaw16_SegmentBack_l0, rc, Int.toNat_natCast, r3, r6, r7]
  refine encode_ct (s := s) hp hb (fun H' h => SgR.same ok (h.tail.base)) h (fun hm fv H2 g2 => ?_) (fun hm H2 g2 => ?_)
  rotate_left
  · have rc := rd_s g2.cel
    obtain ⟨r7, _⟩ := rr H2 g2.tail.base
    simp -implicitDefEqProofs -dsimp (disch := omega) only [go_sem, Nat.reduceEqDiff, ↓reduceIte, Nat.reduceAdd, Nat.reduceMul, Nat.reduceSub, Nat.reduceLT, Nat.reduceLeDiff, Int.reduceLT, Int.reduceLE, Int.reduceEq, Int.reduceNeg, Int.reduceAdd, Int.reduceMul, Int.reduceSub, Int.reduceToNat, reduceCtorEq, dec_t, dec_f, rc, Int.toNat_natCast, r7]
    refine check_ct hp (SgR.same ok g2.tail.base) fun H3 s3 => ?_
    rw [mayB_f hm]
    simp -implicitDefEqProofs -dsimp (disch := omega) only [go_sem, Nat.reduceEqDiff, ↓reduceIte, Nat.reduceAdd, Nat.reduceMul, Nat.reduceSub, Nat.reduceLT, Nat.reduceLeDiff, Int.reduceLT, Int.reduceLE, Int.reduceEq, Int.reduceNeg, Int.reduceAdd, Int.reduceMul, Int.reduceSub, Int.reduceToNat, reduceCtorEq, dec_t, dec_f, w64, cadd1]
    exact hn _ (g2.keep s3)
  have hf := g2.own.arr
  obtain ⟨fa, fc, fe, hfs⟩ := hf.shape
  have rc := rd_s (Hs.p1 g2).cel
  rw [hfs]
  simp -implicitDefEqProofs -dsimp (disch := omega) only [go_sem, Nat.reduceEqDiff, ↓reduceIte, Nat.reduceAdd, Nat.reduceMul, Nat.reduceSub, Nat.reduceLT, Nat.reduceLeDiff, Int.reduceLT, Int.reduceLE, Int.reduceEq, Int.reduceNeg, Int.reduceAdd, Int.reduceMul, Int.reduceSub, Int.reduceToNat, reduceCtorEq, dec_t, dec_f, rc]
  refine copy_ct hc (hx.same (Hs.p2 g2).base fun _ _ h => h) (by omega) fun w H3 hw3 s3 f3 => ?_
  have g3 := g2.lst s3 hw3 f3
  have rc3 := rd_s (Hs.p2 g3).cel
  have hl := hdr_len hm
  obtain ⟨w2, H4, ha4, o4, s4, f4⟩ := app_own (eb := 1) g3.own (firsts_arr (Hs.p1 g3).own.arr) (by simp [u8s]) (u8s_one _) (by omega) (by omega)
  have g4 := g3.lst' s4 o4 f4
  have rc4 := rd_s (Hs.p2 g4).cel
  have bs4 := (Hs.p3 g4).base
  obtain ⟨w3, H5, ha5, o5, s5, f5⟩ := app_own (eb := 1) g4.own (firsts_arr (hy.same bs4 fun _ _ h => h)) (by simp [u8s]) (u8s_one _) (by omega) (by omega)
  have g5 := g4.lst' s5 o5 f5
  have eu : (u8s x ++ u8s (hdr s)) ++ u8s y = u8s (x ++ hdr s ++ y) := by simp [u8s]
  have el : x.length + (hdr s).length + y.length = (x ++ hdr s ++ y).length := by simp only [List.length_append]
  rw [eu, el] at g5
  rw [hfs] at ha4
  simp -implicitDefEqProofs -dsimp (disch := omega) only [go_sem, Nat.reduceEqDiff, ↓reduceIte, Nat.reduceAdd, Nat.reduceMul, Nat.reduceSub, Nat.reduceLT, Nat.reduceLeDiff, Int.reduceLT, Int.reduceLE, Int.reduceEq, Int.reduceNeg, Int.reduceAdd, Int.reduceMul, Int.reduceSub, Int.reduceToNat, reduceCtorEq, dec_t, dec_f, ]
  refine aft_intro (t := tag _) (by simp [rechecks, recheck, fresh, Fr.get, Fr.put, look, step, opd, rc3]) ?_
  simp -implicitDefEqProofs -dsimp (disch := omega) only [go_sem, Nat.reduceEqDiff, ↓reduceIte, Nat.reduceAdd, Nat.reduceMul, Nat.reduceSub, Nat.reduceLT, Nat.reduceLeDiff, Int.reduceLT, Int.reduceLE, Int.reduceEq, Int.reduceNeg, Int.reduceAdd, Int.reduceMul, Int.reduceSub, Int.reduceToNat, reduceCtorEq, dec_t, dec_f, ha4]
  refine aft_intro (t := tag _) (by simp [rechecks, recheck, fresh, Fr.get, Fr.put, look, step, opd, rc4]) ?_
  have hb5 := g5.own.arr
  have rc5 := rd_s (Hs.p2 g5).cel
  obtain ⟨wa, wc, we, hws⟩ := hb5.shape
  have ax := has
  rw [has] at rc5
  simp -implicitDefEqProofs -dsimp (disch := omega) only [go_sem, Nat.reduceEqDiff, ↓reduceIte, Nat.reduceAdd, Nat.reduceMul, Nat.reduceSub, Nat.reduceLT, Nat.reduceLeDiff, Int.reduceLT, Int.reduceLE, Int.reduceEq, Int.reduceNeg, Int.reduceAdd, Int.reduceMul, Int.reduceSub, Int.reduceToNat, reduceCtorEq, dec_t, dec_f, ha5, rc5]
  rw [← has] at rc5
  have hk8 : s.kind.toNat < 256 := by have := hm.kind; unfold kindOk at this; omega
  have hbb : ∀ b ∈ x ++ hdr s ++ y, b < 256 := fun b hb => by
    rcases List.mem_append.1 hb with hb | hb
    · rcases List.mem_append.1 hb with hb | hb
      · exact hxs b hb
      · exact hdr_lt hk8 b hb
    · exact hys b hb
  refine decode_ct (f := x ++ hdr s ++ y) (p := (x.length : Nat)) hp hb (by unfold r64; omega) hb5 hbb (by omega) g5 (fun s6 len a w1' w2' H6 e hd g6 => ?_) (fun e H6 k g6 => ?_)
  rotate_left
  · rw [dec_fwd hm hys] at k; cases k
  rw [dec_fwd hm hys] at e
  cases e
  clear hd
  obtain ⟨u1a, u1c, u1e, hu1⟩ := g6.own.arr.shape
  obtain ⟨u2a, u2c, u2e, hu2⟩ := (Hs.p1 g6).own.arr.shape
  subst hu1 hu2
  have hok := with_nil ok.ok
  have s1 := ok.refs
  have s2 := ok.keep
  obtain ⟨num, kind, page, refs, keep, stay, data⟩ := s
  unfold withData Sg.cells at *
  dsimp only at *
  have sr6 : ∀ (R' R'' : List As) H', Hs H' (R' ++ (Lst (.sl u1a refs.length u1c u1e) 1 refs.length (i64s refs) :: Lst (.sl u2a keep.length u2c u2e) 1 keep.length (bools keep) :: R'')) → SgR H' (.sl u1a refs.length u1c u1e) (.sl u2a keep.length u2c u2e) (.sl none 0 0 0) ⟨num, kind, page, refs, keep, stay, []⟩ := fun R' R'' H' h =>
    ⟨(h.ownm (List.mem_append_right _ (List.mem_cons_self ..))).arr, (h.ownm (List.mem_append_right _ (List.mem_cons_of_mem _ (List.mem_cons_self ..)))).arr, Or.inl ⟨rfl, rfl, rfl⟩, hok⟩
  have g7 := g6.alloc (l := [.int .i64 num, .int .i64 kind, .int .i64 page, .sl u1a refs.length u1c u1e, .sl u2a keep.length u2c u2e, .bool stay, .sl none 0 0 0])
  have c7 := rd_s (Hs.p5 g7).cel
  obtain ⟨r7, _⟩ := rr _ (Hs.p5 g7).tail.tail.tail.tail.tail.tail.base
  have g8 := g7.alloc (l := [.int .i64 num, .int .i64 kind, .int .i64 page, .sl a1 refs.length c1 e1, .sl a2 keep.length c2 e2, .bool stay, .sl none 0 0 0])
  rw [next_new] at g8
  have q7 := rd_m (Hs.p1 g8).cel 7
  have q8 := rd_m g8.cel 7
  have b8 := (Hs.cutl (A := [_, _, _, _, _, _, _]) g8).base
  simp -implicitDefEqProofs -dsimp (disch := omega) only [go_sem, Nat.reduceEqDiff, ↓reduceIte, Nat.reduceAdd, Nat.reduceMul, Nat.reduceSub, Nat.reduceLT, Nat.reduceLeDiff, Int.reduceLT, Int.reduceLE, Int.reduceEq, Int.reduceNeg, Int.reduceAdd, Int.reduceMul, Int.reduceSub, Int.reduceToNat, reduceCtorEq, dec_t, dec_f, c7, r7, Int.toNat_natCast, q7, q8]
  generalize (H6.new _).new _ = H8 at *
  generalize H6.next + 1 = b11 at *
  generalize H6.next = b7 at *
  refine eqSeg_ct (s := ⟨num, kind, page, refs, keep, stay, []⟩) (t := ⟨num, kind, page, refs, keep, stay, []⟩) hp he (sr6 [_, _] _ _ g8) ⟨s1.same b8 fun _ _ h => h, s2.same b8 fun _ _ h => h, Or.inl ⟨rfl, rfl, rfl⟩, hok⟩ fun H9 s9 => ?_
  rw [dec_t ⟨rfl, rfl, rfl, rfl, rfl, rfl, rfl⟩]
  have g9 := g8.keep s9
  have rc9 := rd_s (Hs.cutl (A := [_, _, _, _, _, _]) g9).cel
  have b9 := (Hs.cutl (A := [_, _, _, _, _, _, _]) g9).base
  obtain ⟨_, rq⟩ := rr H9 b9
  have r69 := rq 6 (by omega)
  simp only [List.getElem?_cons_succ, List.getElem?_cons_zero] at r69
  rw [has] at rc9
  have ee : (x.length : Int) + ((hdr ⟨num, kind, page, refs, keep, stay, data⟩).length : Nat) = ((x.length + (hdr ⟨num, kind, page, refs, keep, stay, data⟩).length : Nat) : Int) := by omega
  simp -implicitDefEqProofs -dsimp (disch := omega) only [go_sem, Nat.reduceEqDiff, ↓reduceIte, Nat.reduceAdd, Nat.reduceMul, Nat.reduceSub, Nat.reduceLT, Nat.reduceLeDiff, Int.reduceLT, Int.reduceLE, Int.reduceEq, Int.reduceNeg, Int.reduceAdd, Int.reduceMul, Int.reduceSub, Int.reduceToNat, reduceCtorEq, dec_t, dec_f, rc9, r69, Int.toNat_natCast, ee, w64]
  rw [← has] at rc9
  rw [← hfs]
  refine back_l1 (x := x) (y := y) (lv := .sl (some (b, o)) l.length c 7) (mv := mv) (av := av) hp hb hm hxs hys (by omega) (by omega) (fun H' h => ⟨(Hs.cutl (A := [_, _, _, _, _, _]) h).cel, hx.same (Hs.cutl (A := [_, _, _, _, _, _, _]) h).base fun _ _ h => h, (Hs.cutl (A := [_, _, _, _, _]) h).own.arr, (Hs.cutl (A := [_, _, _, _]) h).own.arr⟩) g9 fun H10 ex g10 => ?_
  simp -implicitDefEqProofs -dsimp (disch := omega) only [go_sem, Nat.reduceEqDiff, ↓reduceIte, Nat.reduceAdd, Nat.reduceMul, Nat.reduceSub, Nat.reduceLT, Nat.reduceLeDiff, Int.reduceLT, Int.reduceLE, Int.reduceEq, Int.reduceNeg, Int.reduceAdd, Int.reduceMul, Int.reduceSub, Int.reduceToNat, reduceCtorEq, dec_t, dec_f, w64, cadd1]
  exact hn _ (Hs.cutl (A := [_, _, _, _, _, _]) g10)
theorem law_SegmentBack {P : Prog} (hp : HasSeg P) (hb : HasBits P) (he : P 26 = some burinref0_Eq) (hc : P 27 = some burinref0_Copy) (hg : P 176 = some burinlaw16_SegmentBack) (H : Heap) (cs : List V) (x : TD.Ty roundTD) (h : Is H roundTD cs x) : Call P 176 [argV roundTD cs] H fun o _ => o = .ret (.bool true) := by
  obtain ⟨a, r, e, h1, a2, r2, e2, h2, a3, r3, e3, h3, h4⟩ := h
  obtain ⟨lv, l, k1, k2, k3, k4⟩ := is_segs h1
  obtain ⟨av, f, l1, l2, l3, l4⟩ := is_bytes h2
  obtain ⟨mv, g, m1, m2, m3, m4⟩ := is_bytes h3
  rw [show cs = [lv, av, mv] by rw [e, e2, e3, k1, l1, m1, show r3 = [] from h4]; rfl]
  exact segBack hp hb he hc hg k2 k3 l2 l3 (by omega) m2 m3 (by omega)
end Go.Ab
