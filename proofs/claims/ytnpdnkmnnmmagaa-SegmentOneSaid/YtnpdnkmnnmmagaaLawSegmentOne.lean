/- The law SegmentOne. Conditions: none. -/
import Derived.Test.YtnpdnkmnnmmagaaSr
import Derived.Test.YtnpdnkmnnmmagaaPL16One
set_option linter.all false
namespace Go.Ab
def oneF (v : V) (i : Nat) : Fr := ⟨[(0, v), (3, .int .i64 (i : Nat))], []⟩
theorem with_ok {s : Sg} {d : List Nat} (hm : May (withData s d)) (hd : ∀ b ∈ d, b < 256) : (withData s d).Ok := by
  have h1 := hm.n0
  have h2 := hm.n1
  have h3 := hm.kind
  have h4 := hm.page
  have h5 := may_len hm
  have h6 := hm.keep
  have h7 := hm.most
  have h8 := incr_all hm.incr
  unfold kindOk at h3
  unfold pagedP at h4
  refine ⟨?_, ?_, ?_, fun n hn => ?_, hd, by omega, by omega, by omega⟩
  · unfold r64; omega
  · unfold r64; omega
  · unfold r64; omega
  · have := h8 n hn
    unfold r64; omega
set_option maxHeartbeats 1000000 in
theorem segOne {P : Prog} (hp : HasSeg P) (hb : HasBits P) (he : P 26 = some burinref0_Eq) (hg : P 177 = some burinlaw16_SegmentOne) {H0 : Heap} {v : V} {l : List PlO} (hv : Arr H0 v 2 l.length (plCells l)) (hl : ∀ o ∈ l, PlOk H0 o) : Call P 177 [v] H0 fun o _ => o = .ret (.bool true) := by
  refine call_of hg rfl ?_
  obtain ⟨va, vc, ve, hvs⟩ := hv.shape
  rw [hvs]
  simp -implicitDefEqProofs -dsimp (disch := omega) only [go_sem, Nat.reduceEqDiff, ↓reduceIte, Nat.reduceAdd, Nat.reduceMul, Nat.reduceSub, Nat.reduceLT, Nat.reduceLeDiff, Int.reduceLT, Int.reduceLE, Int.reduceEq, Int.reduceNeg, Int.reduceAdd, Int.reduceMul, Int.reduceSub, Int.reduceToNat, reduceCtorEq, dec_t, dec_f, ]
  rw [← hvs]
  refine loop_cnt (10 : Nat) (oneF v) (fun i H => i ≤ l.length ∧ Hs H [Bas H0]) (fun i H K hi hS hn hx hy => ?_) 0 H0 (Nat.zero_le _) ⟨Nat.zero_le _, Hs.start H0⟩
  obtain ⟨hil, h⟩ := hS
  unfold oneF
  by_cases hlt : i < l.length ∧ i < 10
  rotate_left
  · rw [hvs]
    rcases (show ¬ i < l.length ∨ (i < l.length ∧ ¬ i < 10) by omega) with q | q
    all_goals
      simp -implicitDefEqProofs -dsimp (disch := omega) only [go_sem, Nat.reduceEqDiff, ↓reduceIte, Nat.reduceAdd, Nat.reduceMul, Nat.reduceSub, Nat.reduceLT, Nat.reduceLeDiff, Int.reduceLT, Int.reduceLE, Int.reduceEq, Int.reduceNeg, Int.reduceAdd, Int.reduceMul, Int.reduceSub, Int.reduceToNat, reduceCtorEq, dec_t, dec_f, burinlaw16_SegmentOne_l0]
      rw [hx]
      simp -implicitDefEqProofs -dsimp (disch := omega) only [go_sem, Nat.reduceEqDiff, ↓reduceIte, Nat.reduceAdd, Nat.reduceMul, Nat.reduceSub, Nat.reduceLT, Nat.reduceLeDiff, Int.reduceLT, Int.reduceLE, Int.reduceEq, Int.reduceNeg, Int.reduceAdd, Int.reduceMul, Int.reduceSub, Int.reduceToNat, reduceCtorEq, dec_t, dec_f, ]
      refine wakes16_ct hp hb he h fun H' _ => ?_
      simp -implicitDefEqProofs -dsimp (disch := omega) only [go_sem, Nat.reduceEqDiff, ↓reduceIte, Nat.reduceAdd, Nat.reduceMul, Nat.reduceSub, Nat.reduceLT, Nat.reduceLeDiff, Int.reduceLT, Int.reduceLE, Int.reduceEq, Int.reduceNeg, Int.reduceAdd, Int.reduceMul, Int.reduceSub, Int.reduceToNat, reduceCtorEq, dec_t, dec_f, ]
  obtain ⟨hlt, hlt2⟩ := hlt
  have hn := fun H' h => hn hlt2 H' ⟨by omega, h⟩
  unfold oneF at hn
  obtain ⟨b, o, c, rfl⟩ := hv.at0 (by omega)
  clear hvs va vc ve
  have rr : ∀ H', Same (fun _ => False) H0 H' → rd H' none b (o + i * 2) = some (l[i]).v ∧ rd H' none b (o + i * 2 + 1) = some (.int .i64 (l[i]).p) := fun H' sm => by
    have hvv := hv.same sm fun _ _ h => h
    have r0 := hvv.rdm hlt (k := 0) (by omega)
    have r1 := hvv.rdm hlt (k := 1) (by omega)
    have hcs := plCells_at hlt
    have e0 : (plCells l)[i * 2 + 0]? = some (l[i]).v := by
      have := congrArg (·[0]?) hcs
      simpa [List.getElem?_take, List.getElem?_drop, PlO.cs] using this
    have e1 : (plCells l)[i * 2 + 1]? = some (.int .i64 (l[i]).p) := by
      have := congrArg (·[1]?) hcs
      simpa [List.getElem?_take, List.getElem?_drop, PlO.cs] using this
    rw [e0, Nat.add_zero] at r0
    rw [e1] at r1
    exact ⟨r0, r1⟩
  have ok := hl _ (List.getElem_mem hlt)
  generalize l[i] = q at *
  obtain ⟨y, f, p⟩ := q
  obtain ⟨ya, yl, yn, yp⟩ := ok
  dsimp only at ya yl yn yp rr
  have yc := ya.same h.base fun _ _ h => h
  obtain ⟨fa, fc, fe, hys⟩ := ya.shape
  rw [hys] at rr
  obtain ⟨r0, r1⟩ := rr H h.base
  by_cases big : 20000 < f.length
  · simp -implicitDefEqProofs -dsimp (disch := omega) only [go_sem, Nat.reduceEqDiff, ↓reduceIte, Nat.reduceAdd, Nat.reduceMul, Nat.reduceSub, Nat.reduceLT, Nat.reduceLeDiff, Int.reduceLT, Int.reduceLE, Int.reduceEq, Int.reduceNeg, Int.reduceAdd, Int.reduceMul, Int.reduceSub, Int.reduceToNat, reduceCtorEq, dec_t, dec_f, burinlaw16_SegmentOne_l0, Int.toNat_natCast, r0, r1, w64, cadd1]
    exact hn H h
  have g1 := h.alloc (l := [.int .i64 0, .int .i64 0, .int .i64 0, .sl none 0 0 0, .sl none 0 0 0, .bool false, .sl none 0 0 0])
  have sm := (Hs.p1 g1).base
  simp -implicitDefEqProofs -dsimp (disch := omega) only [go_sem, Nat.reduceEqDiff, ↓reduceIte, Nat.reduceAdd, Nat.reduceMul, Nat.reduceSub, Nat.reduceLT, Nat.reduceLeDiff, Int.reduceLT, Int.reduceLE, Int.reduceEq, Int.reduceNeg, Int.reduceAdd, Int.reduceMul, Int.reduceSub, Int.reduceToNat, reduceCtorEq, dec_t, dec_f, burinlaw16_SegmentOne_l0, Int.toNat_natCast, r0, r1]
  generalize H.new _ = H1 at *
  generalize H.next = b4 at *
  rw [← hys]
  refine decode_ct hp hb yp (ya.same sm fun _ _ h => h) yl (by omega) g1 (fun s len a v1 v2 H2 e hd g2 => ?_) (fun e H2 k g2 => ?_)
  rotate_left
  · have hbad := decR_bad k
    have c4 := g2.cel
    have w4 := wr_s c4 0
    have g3 := g2.put (l' := zeroC)
    unfold zeroC at *
    rcases hbad with rfl | rfl
    all_goals
      simp -implicitDefEqProofs -dsimp (disch := omega) only [go_sem, Nat.reduceEqDiff, ↓reduceIte, Nat.reduceAdd, Nat.reduceMul, Nat.reduceSub, Nat.reduceLT, Nat.reduceLeDiff, Int.reduceLT, Int.reduceLE, Int.reduceEq, Int.reduceNeg, Int.reduceAdd, Int.reduceMul, Int.reduceSub, Int.reduceToNat, reduceCtorEq, dec_t, dec_f, ]
      refine aft_intro (t := tag _) (by simp [rechecks, recheck, fresh, Fr.get, Fr.put, look, step, opd, c4]) ?_
      simp -implicitDefEqProofs -dsimp (disch := omega) only [go_sem, Nat.reduceEqDiff, ↓reduceIte, Nat.reduceAdd, Nat.reduceMul, Nat.reduceSub, Nat.reduceLT, Nat.reduceLeDiff, Int.reduceLT, Int.reduceLE, Int.reduceEq, Int.reduceNeg, Int.reduceAdd, Int.reduceMul, Int.reduceSub, Int.reduceToNat, reduceCtorEq, dec_t, dec_f, w4, w64, cadd1]
      exact hn _ g3.tail
  obtain ⟨p0, p1, l1, sd, inv⟩ := dec_inv yl e
  obtain ⟨hm, ea, ea2, etk⟩ := inv (List.replicate len 0) (by simp)
  have hok := with_ok hm (fun b hb => by rw [(List.mem_replicate.1 hb).2]; omega)
  clear inv e
  obtain ⟨num, kind, page, refs, keep, stay, data⟩ := s
  dsimp only at sd
  subst sd
  obtain ⟨v1a, v1c, v1e, rfl⟩ := g2.own.arr.shape
  obtain ⟨v2a, v2c, v2e, rfl⟩ := (Hs.p1 g2).own.arr.shape
  unfold withData at *
  unfold Sg.cells
  dsimp only at *
  have c4 := (Hs.p2 g2).cel
  have w4 := wr_s c4 0
  have g3 := (Hs.p2 g2).put (l' := [.int .i64 num, .int .i64 kind, .int .i64 page, .sl v1a refs.length v1c v1e, .sl v2a keep.length v2c v2e, .bool stay, .sl none 0 0 0])
  rcases (show 100000 < len ∨ ¬ 100000 < len by omega) with q | q
  · simp -implicitDefEqProofs -dsimp (disch := omega) only [go_sem, Nat.reduceEqDiff, ↓reduceIte, Nat.reduceAdd, Nat.reduceMul, Nat.reduceSub, Nat.reduceLT, Nat.reduceLeDiff, Int.reduceLT, Int.reduceLE, Int.reduceEq, Int.reduceNeg, Int.reduceAdd, Int.reduceMul, Int.reduceSub, Int.reduceToNat, reduceCtorEq, dec_t, dec_f, ]
    refine aft_intro (t := tag _) (by simp [rechecks, recheck, fresh, Fr.get, Fr.put, look, step, opd, c4]) ?_
    simp -implicitDefEqProofs -dsimp (disch := omega) only [go_sem, Nat.reduceEqDiff, ↓reduceIte, Nat.reduceAdd, Nat.reduceMul, Nat.reduceSub, Nat.reduceLT, Nat.reduceLeDiff, Int.reduceLT, Int.reduceLE, Int.reduceEq, Int.reduceNeg, Int.reduceAdd, Int.reduceMul, Int.reduceSub, Int.reduceToNat, reduceCtorEq, dec_t, dec_f, w4, w64, cadd1]
    exact hn _ g3.tail.tail.tail
  have ne : ¬ b4 = H2.next := by have := g3.celt; rw [next_put] at this; omega
  have g4 := (g3.alloc (l := u8s (List.replicate len 0))).toLst (n := len) (e := 1) (by simp [u8s])
  rw [next_put] at g4
  have w6 : ∀ vs, wrN (H2.put b4 _) (u8s (List.replicate len 0)) b4 6 vs = _ := fun vs => wr_s (Hs.p1 g4).cel 6 vs
  have g5 := (Hs.p1 g4).put (l' := [.int .i64 num, .int .i64 kind, .int .i64 page, .sl v1a refs.length v1c v1e, .sl v2a keep.length v2c v2e, .bool stay, .sl (some (H2.next, 0)) len len 1])
  have r7 := rd_m g5.cel 7
  simp -implicitDefEqProofs -dsimp (disch := omega) only [go_sem, Nat.reduceEqDiff, ↓reduceIte, Nat.reduceAdd, Nat.reduceMul, Nat.reduceSub, Nat.reduceLT, Nat.reduceLeDiff, Int.reduceLT, Int.reduceLE, Int.reduceEq, Int.reduceNeg, Int.reduceAdd, Int.reduceMul, Int.reduceSub, Int.reduceToNat, reduceCtorEq, dec_t, dec_f, ]
  refine aft_intro (t := tag _) (by simp [rechecks, recheck, fresh, Fr.get, Fr.put, look, step, opd, c4]) ?_
  simp -implicitDefEqProofs -dsimp (disch := omega) only [go_sem, Nat.reduceEqDiff, ↓reduceIte, Nat.reduceAdd, Nat.reduceMul, Nat.reduceSub, Nat.reduceLT, Nat.reduceLeDiff, Int.reduceLT, Int.reduceLE, Int.reduceEq, Int.reduceNeg, Int.reduceAdd, Int.reduceMul, Int.reduceSub, Int.reduceToNat, reduceCtorEq, dec_t, dec_f, w4, Int.toNat_natCast, reps_u8, ne, w6, r7]
  generalize ((H2.put b4 _).new _).put b4 _ = H5 at *
  generalize H2.next = b6 at *
  have g6 : Hs H5 (Cel b4 [.int .i64 num, .int .i64 kind, .int .i64 page, .sl v1a refs.length v1c v1e, .sl v2a keep.length v2c v2e, .bool stay, .sl (some (b6, 0)) len len 1] :: sgT (.sl v1a refs.length v1c v1e) (.sl v2a keep.length v2c v2e) (.sl (some (b6, 0)) len len 1) ⟨num, kind, page, refs, keep, stay, List.replicate len 0⟩ [Bas H0]) := by
    unfold sgT
    dsimp only
    rw [List.length_replicate]
    exact Hs.perm g5 (List.Perm.cons _ (List.Perm.trans (List.Perm.swap ..) (List.Perm.cons _ (List.Perm.swap ..))))
  refine encode_ct (s := ⟨num, kind, page, refs, keep, stay, List.replicate len 0⟩) hp hb (fun H' h => sgT_r hok [_] h) g6 (fun _ w H7 g7 => ?_) (fun k => absurd hm k)
  have bs7 := (Hs.cutl (A := [_, _, _, _, _]) g7).base
  obtain ⟨wa, wc, we, rfl⟩ := g7.own.arr.shape
  have hw := g7.own.arr
  obtain ⟨r0, r1⟩ := rr H7 bs7
  obtain ⟨k, rfl⟩ : ∃ k : Nat, p = (k : Nat) := ⟨p.toNat, by omega⟩
  rw [Int.toNat_natCast] at ea etk
  have yb7 := ya.same bs7 fun _ _ h => h
  rw [hys] at yb7
  obtain ⟨z, hz, hza, _⟩ := slc_arr yb7 (k := .i64) (k' := .i64) (lo := k) (hi := a) (by omega) (by omega)
  rw [Nat.mul_one, Nat.mul_one] at hza
  have hze : ((u8s f).drop k).take (a - k) = u8s (hdr ⟨num, kind, page, refs, keep, stay, List.replicate len 0⟩) := by
    rw [← etk, ea, Nat.add_sub_cancel_left]
    simp only [u8s, List.map_take, List.map_drop]
  rw [hze, show a - k = (hdr ⟨num, kind, page, refs, keep, stay, List.replicate len 0⟩).length by omega] at hza
  simp -implicitDefEqProofs -dsimp (disch := omega) only [go_sem, Nat.reduceEqDiff, ↓reduceIte, Nat.reduceAdd, Nat.reduceMul, Nat.reduceSub, Nat.reduceLT, Nat.reduceLeDiff, Int.reduceLT, Int.reduceLE, Int.reduceEq, Int.reduceNeg, Int.reduceAdd, Int.reduceMul, Int.reduceSub, Int.reduceToNat, reduceCtorEq, dec_t, dec_f, Int.toNat_natCast, r0, r1, hz]
  refine eq_ct he hw hza (by omega) ?_
  rw [dec_t rfl]
  simp -implicitDefEqProofs -dsimp (disch := omega) only [go_sem, Nat.reduceEqDiff, ↓reduceIte, Nat.reduceAdd, Nat.reduceMul, Nat.reduceSub, Nat.reduceLT, Nat.reduceLeDiff, Int.reduceLT, Int.reduceLE, Int.reduceEq, Int.reduceNeg, Int.reduceAdd, Int.reduceMul, Int.reduceSub, Int.reduceToNat, reduceCtorEq, dec_t, dec_f, w64, cadd1]
  exact hn _ (Hs.cutl (A := [_, _, _, _, _]) g7)
theorem law_SegmentOne {P : Prog} (hp : HasSeg P) (hb : HasBits P) (he : P 26 = some burinref0_Eq) (hg : P 177 = some burinlaw16_SegmentOne) (H : Heap) (cs : List V) (x : TD.Ty (.sl 32 placeTD)) (h : Is H (.sl 32 placeTD) cs x) : Call P 177 [argV (.sl 32 placeTD) cs] H fun o _ => o = .ret (.bool true) := by
  obtain ⟨v, l, rfl, k1, k2, k3⟩ := is_places h
  exact segOne hp hb he hg k1 k2
end Go.Ab
