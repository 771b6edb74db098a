/- The reference's Back. Conditions: none. -/
import Derived.Test.YtfgecfbknpifjaaTn
set_option linter.all false
namespace Go.Ab
section
variable {P : Prog} {H : Heap} {R : List As} {Q : Out → Heap → Prop}
set_option maxHeartbeats 1000000 in
theorem refBack_ct (hz : HasRz P) (hp : HasRfc P) {w h : Int} {pv : V} {L : List PcO} (hs : Hs H R) (hr : PcsRd R pv L) (hw : i64r w) (hh : i64r h) (hL : L.length ≤ 281474976710656)
    (hQ1 : ¬ (sizeOk w h ∧ ∀ o ∈ L, poOk o) → ∀ H', Hs H' R → Q (.ret (.tup [.agg [.int .i64 0, .int .i64 0, .sl none 0 0 0], .int .i64 90])) H')
    (hQ2 : sizeOk w h → (∀ o ∈ L, poOk o) → ∀ v' H', Hs H' (BmA v' w.toNat h.toNat (bkPx L) :: R) → Q (.ret (.tup [.agg [.int .i64 w, .int .i64 h, v'], .int .i64 0])) H') : Call P 190 [pv, .int .i64 w, .int .i64 h] H Q := by
  obtain ⟨pa, pc, pe, rfl⟩ := (hr.arr H hs).shape
  refine call_of hp.h_burinref10_Back rfl ?_
  have h1 := hs.alloc (l := [.int .i64 0, .int .i64 0, .sl none 0 0 0])
  simp -implicitDefEqProofs -dsimp (disch := omega) only [go_sem, Nat.reduceEqDiff, ↓reduceIte, Nat.reduceAdd, Nat.reduceMul, Nat.reduceSub, Nat.reduceLT, Nat.reduceLeDiff, Int.reduceLT, Int.reduceLE, Int.reduceEq, Int.reduceNeg, Int.reduceAdd, Int.reduceMul, Int.reduceSub, Int.reduceToNat, reduceCtorEq, dec_t, dec_f, ]
  generalize H.new _ = H1 at *
  generalize H.next = b at *
  have bad : ∀ {H' : Heap} {T : List As}, Hs H' (Cel b [.int .i64 0, .int .i64 0, .sl none 0 0 0] :: T) → ∃ H'', wr H' b 0 [.int .i64 0, .int .i64 0, .sl none 0 0 0] = some H'' ∧ Hs H'' (Cel b [.int .i64 0, .int .i64 0, .sl none 0 0 0] :: T) := fun {H' T} h => Hs.sto 0 h rfl (o := 0) (vs := [.int .i64 0, .int .i64 0, .sl none 0 0 0]) (by simp) rfl
  refine sizeR_ct hz hw hh ?_
  by_cases k : sizeOk w h
  rotate_left
  · rw [decide_eq_false k]
    obtain ⟨H3, e3, h3⟩ := bad h1
    have r3 := rd_bm h3 (List.mem_cons_self ..) 3 rfl
    simp -implicitDefEqProofs -dsimp (disch := omega) only [go_sem, Nat.reduceEqDiff, ↓reduceIte, Nat.reduceAdd, Nat.reduceMul, Nat.reduceSub, Nat.reduceLT, Nat.reduceLeDiff, Int.reduceLT, Int.reduceLE, Int.reduceEq, Int.reduceNeg, Int.reduceAdd, Int.reduceMul, Int.reduceSub, Int.reduceToNat, reduceCtorEq, dec_t, dec_f, e3, r3]
    exact hQ1 (fun q => k q.1) H3 h3.tail
  rw [decide_eq_true k]
  have hle := sizeOk_le k
  have hkk := k
  obtain ⟨k1, k2, k3⟩ := k
  obtain ⟨wn, rfl⟩ : ∃ n : Nat, w = n := ⟨w.toNat, by omega⟩
  obtain ⟨hn', rfl⟩ : ∃ n : Nat, h = n := ⟨h.toNat, by omega⟩
  simp only [Int.toNat_natCast] at hQ2
  simp -implicitDefEqProofs -dsimp (disch := omega) only [go_sem, Nat.reduceEqDiff, ↓reduceIte, Nat.reduceAdd, Nat.reduceMul, Nat.reduceSub, Nat.reduceLT, Nat.reduceLeDiff, Int.reduceLT, Int.reduceLE, Int.reduceEq, Int.reduceNeg, Int.reduceAdd, Int.reduceMul, Int.reduceSub, Int.reduceToNat, reduceCtorEq, dec_t, dec_f, ]
  refine loop_cnt L.length (fun i => ⟨[(0, .sl pa L.length pc pe), (1, .int .i64 (wn : Nat)), (2, .int .i64 (hn' : Nat)), (6, .ptr (some (b, 0))), (8, .int .i64 (i : Nat))], []⟩)
    (fun i H => (∀ o ∈ L.take i, poOk o) ∧ Hs H (Cel b [.int .i64 0, .int .i64 0, .sl none 0 0 0] :: R)) (fun i H3 K hi ⟨hok, h3⟩ hn hx hrr => ?_) 0 H1 (Nat.zero_le _) ⟨by simp, h1⟩
  by_cases hlt : i < L.length
  · obtain ⟨xb, xo, xc, ev, r1, r2, r3⟩ := po_rd (hr.arr H3 h3.tail) hlt
    cases ev
    have hmem := List.getElem_mem hlt
    have etk : L.take (i + 1) = L.take i ++ [L[i]] := (List.take_append_getElem hlt).symm
    generalize L[i] = o at r1 r2 r3 hmem etk
    obtain ⟨i1, i2, i3, i4⟩ := hr.r o hmem
    simp -implicitDefEqProofs -dsimp (disch := omega) only [go_sem, Nat.reduceEqDiff, ↓reduceIte, Nat.reduceAdd, Nat.reduceMul, Nat.reduceSub, Nat.reduceLT, Nat.reduceLeDiff, Int.reduceLT, Int.reduceLE, Int.reduceEq, Int.reduceNeg, Int.reduceAdd, Int.reduceMul, Int.reduceSub, Int.reduceToNat, reduceCtorEq, dec_t, dec_f, burinref10_Back_l1, Int.toNat_natCast, r3]
    refine may_ct hz h3 (hr.bits o hmem H3 h3.tail) (hr.lt o hmem) i3 i4 fun bb H4 hbb h4 _ => ?_
    cases bb with
    | false =>
      have nk : ¬ poOk o := fun q => by have := hbb.2 q; cases this
      obtain ⟨H5, e5, h5⟩ := bad h4
      have r5 := rd_bm h5 (List.mem_cons_self ..) 3 rfl
      simp -implicitDefEqProofs -dsimp (disch := omega) only [go_sem, Nat.reduceEqDiff, ↓reduceIte, Nat.reduceAdd, Nat.reduceMul, Nat.reduceSub, Nat.reduceLT, Nat.reduceLeDiff, Int.reduceLT, Int.reduceLE, Int.reduceEq, Int.reduceNeg, Int.reduceAdd, Int.reduceMul, Int.reduceSub, Int.reduceToNat, reduceCtorEq, dec_t, dec_f, e5]
      rw [hrr]
      simp -implicitDefEqProofs -dsimp (disch := omega) only [go_sem, Nat.reduceEqDiff, ↓reduceIte, Nat.reduceAdd, Nat.reduceMul, Nat.reduceSub, Nat.reduceLT, Nat.reduceLeDiff, Int.reduceLT, Int.reduceLE, Int.reduceEq, Int.reduceNeg, Int.reduceAdd, Int.reduceMul, Int.reduceSub, Int.reduceToNat, reduceCtorEq, dec_t, dec_f, r5]
      exact hQ1 (fun q => nk (q.2 _ hmem)) H5 h5.tail
    | true =>
      simp -implicitDefEqProofs -dsimp (disch := omega) only [go_sem, Nat.reduceEqDiff, ↓reduceIte, Nat.reduceAdd, Nat.reduceMul, Nat.reduceSub, Nat.reduceLT, Nat.reduceLeDiff, Int.reduceLT, Int.reduceLE, Int.reduceEq, Int.reduceNeg, Int.reduceAdd, Int.reduceMul, Int.reduceSub, Int.reduceToNat, reduceCtorEq, dec_t, dec_f, w64, cadd1]
      refine hn hlt H4 ⟨fun z hz => ?_, h4⟩
      rw [etk] at hz
      rcases List.mem_append.1 hz with hz | hz
      · exact hok z hz
      · simp at hz; subst hz; exact hbb.1 rfl
  · obtain rfl : i = L.length := by omega
    rw [List.take_length] at hok
    simp -implicitDefEqProofs -dsimp (disch := omega) only [go_sem, Nat.reduceEqDiff, ↓reduceIte, Nat.reduceAdd, Nat.reduceMul, Nat.reduceSub, Nat.reduceLT, Nat.reduceLeDiff, Int.reduceLT, Int.reduceLE, Int.reduceEq, Int.reduceNeg, Int.reduceAdd, Int.reduceMul, Int.reduceSub, Int.reduceToNat, reduceCtorEq, dec_t, dec_f, burinref10_Back_l1]
    rw [hx]
    simp -implicitDefEqProofs -dsimp (disch := omega) only [go_sem, Nat.reduceEqDiff, ↓reduceIte, Nat.reduceAdd, Nat.reduceMul, Nat.reduceSub, Nat.reduceLT, Nat.reduceLeDiff, Int.reduceLT, Int.reduceLE, Int.reduceEq, Int.reduceNeg, Int.reduceAdd, Int.reduceMul, Int.reduceSub, Int.reduceToNat, reduceCtorEq, dec_t, dec_f, ]
    refine white_ct hz h3 ⟨by omega, by omega, by rw [← Int.natCast_mul] at k3; omega⟩ fun v' H4 h4 _ => ?_
    obtain ⟨va, vc, ve, rfl⟩ := h4.bml.own.arr.shape
    have h5 := h4.alloc (l := [.int .i64 (wn : Nat), .int .i64 (hn' : Nat), .sl va (Wds wn hn' fun _ _ => false).length vc ve])
    simp -implicitDefEqProofs -dsimp (disch := omega) only [go_sem, Nat.reduceEqDiff, ↓reduceIte, Nat.reduceAdd, Nat.reduceMul, Nat.reduceSub, Nat.reduceLT, Nat.reduceLeDiff, Int.reduceLT, Int.reduceLE, Int.reduceEq, Int.reduceNeg, Int.reduceAdd, Int.reduceMul, Int.reduceSub, Int.reduceToNat, reduceCtorEq, dec_t, dec_f, ]
    generalize H4.new _ = H5 at *
    generalize H4.next = c at *
    refine loop_cnt L.length (fun i => ⟨[(0, .sl pa L.length pc pe), (6, .ptr (some (b, 0))), (9, .ptr (some (c, 0))), (10, .int .i64 (i : Nat))], []⟩)
      (fun i H => Hs H (BmA (.sl va (Wds wn hn' fun _ _ => false).length vc ve) wn hn' (bkPx (L.take i)) :: Cel c [.int .i64 (wn : Nat), .int .i64 (hn' : Nat), .sl va (Wds wn hn' fun _ _ => false).length vc ve] :: Cel b [.int .i64 0, .int .i64 0, .sl none 0 0 0] :: R))
      (fun i H6 K2 hi h6 hn2 hx2 hrr2 => ?_) 0 H5 (Nat.zero_le _) h5.p1
    have c6 := rd_bm h6 (b := c) (l := [.int .i64 (wn : Nat), .int .i64 (hn' : Nat), .sl va (Wds wn hn' fun _ _ => false).length vc ve]) (by simp) 3 rfl
    by_cases hlt : i < L.length
    · obtain ⟨xb, xo, xc, ev, r1, r2, r3⟩ := po_rd (hr.arr H6 h6.tail.tail.tail) hlt
      cases ev
      have hmem := List.getElem_mem hlt
      have etk : L.take (i + 1) = L.take i ++ [L[i]] := (List.take_append_getElem hlt).symm
      generalize L[i] = o at r1 r2 r3 hmem etk
      obtain ⟨i1, i2, i3, i4⟩ := hr.r o hmem
      have hbt := hr.bits o hmem
      have hblt := hr.lt o hmem
      have hmo := hok o hmem
      obtain ⟨ox, oy, ow, oh, ov, ows⟩ := o
      dsimp only at i1 i2 hbt hblt r3
      unfold poOk at hmo
      dsimp only at hmo
      have hmo' := hmo
      obtain ⟨⟨m1, m2, m3⟩, m4, m5⟩ := hmo'
      obtain ⟨on, rfl⟩ : ∃ n : Nat, ow = n := ⟨ow.toNat, by omega⟩
      obtain ⟨om, rfl⟩ : ∃ n : Nat, oh = n := ⟨oh.toNat, by omega⟩
      have q0 := r2 0 (by omega)
      have q1 := r2 1 (by omega)
      rw [Nat.add_zero] at q0
      simp -implicitDefEqProofs -dsimp (disch := omega) only [go_sem, Nat.reduceEqDiff, ↓reduceIte, Nat.reduceAdd, Nat.reduceMul, Nat.reduceSub, Nat.reduceLT, Nat.reduceLeDiff, Int.reduceLT, Int.reduceLE, Int.reduceEq, Int.reduceNeg, Int.reduceAdd, Int.reduceMul, Int.reduceSub, Int.reduceToNat, reduceCtorEq, dec_t, dec_f, burinref10_Back_l0, Int.toNat_natCast, c6, q0, q1, r3, PcO.cs]
      refine lay_ct hz hp h6 (fun H' h' => hbt H' h'.tail.tail) hblt hmo i1 i2 fun H7 h7 => ?_
      simp -implicitDefEqProofs -dsimp (disch := omega) only [go_sem, Nat.reduceEqDiff, ↓reduceIte, Nat.reduceAdd, Nat.reduceMul, Nat.reduceSub, Nat.reduceLT, Nat.reduceLeDiff, Int.reduceLT, Int.reduceLE, Int.reduceEq, Int.reduceNeg, Int.reduceAdd, Int.reduceMul, Int.reduceSub, Int.reduceToNat, reduceCtorEq, dec_t, dec_f, w64, cadd1]
      refine hn2 hlt H7 ?_
      rw [etk, bkPx_snoc]
      exact h7
    · obtain rfl : i = L.length := by omega
      rw [List.take_length] at h6
      obtain ⟨H7, e7, h7⟩ := Hs.sto 2 h6 rfl (o := 0) (vs := [.int .i64 (wn : Nat), .int .i64 (hn' : Nat), .sl va (Wds wn hn' fun _ _ => false).length vc ve]) (by simp) rfl
      have r7 := rd_bm h7 (b := b) (l := [.int .i64 (wn : Nat), .int .i64 (hn' : Nat), .sl va (Wds wn hn' fun _ _ => false).length vc ve]) (by simp [over]) 3 rfl
      simp -implicitDefEqProofs -dsimp (disch := omega) only [go_sem, Nat.reduceEqDiff, ↓reduceIte, Nat.reduceAdd, Nat.reduceMul, Nat.reduceSub, Nat.reduceLT, Nat.reduceLeDiff, Int.reduceLT, Int.reduceLE, Int.reduceEq, Int.reduceNeg, Int.reduceAdd, Int.reduceMul, Int.reduceSub, Int.reduceToNat, reduceCtorEq, dec_t, dec_f, burinref10_Back_l0]
      rw [hx2]
      simp -implicitDefEqProofs -dsimp (disch := omega) only [go_sem, Nat.reduceEqDiff, ↓reduceIte, Nat.reduceAdd, Nat.reduceMul, Nat.reduceSub, Nat.reduceLT, Nat.reduceLeDiff, Int.reduceLT, Int.reduceLE, Int.reduceEq, Int.reduceNeg, Int.reduceAdd, Int.reduceMul, Int.reduceSub, Int.reduceToNat, reduceCtorEq, dec_t, dec_f, c6, e7, r7]
      refine hQ2 hkk hok _ H7 ?_
      exact h7.tail2.tail2
end
end Go.Ab
