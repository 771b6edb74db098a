/- Lists of pieces: copied, compared. Conditions: none. -/
import Derived.Test.YtfgecfbknpifjaaTl
import Derived.Test.YtfgecfbknpifjaaPRfc
set_option linter.all false
namespace Go.Ab
/-- What a piece is. -/
def PcO.key (o : PcO) : Int × Int × Int × Int × List Nat := (o.x, o.y, o.w, o.h, o.ws)
def PcO.as (o : PcO) : As := Lst o.v 1 o.ws.length (u64s o.ws)
theorem poCells_snoc (l : List PcO) (o : PcO) : poCells (l ++ [o]) = poCells l ++ o.cs := by simp [poCells]
/-- Pieces of one's own, as words. -/
def StO (ov : V) (L : List PcO) (T : List As) : List As := Lst ov 5 L.length (poCells L) :: (L.map PcO.as ++ T)
section
variable {P : Prog} {H : Heap} {R : List As} {Q : Out → Heap → Prop}
structure CpS where
  i : Nat
  ov : V
  L : List PcO
set_option maxHeartbeats 1000000 in
theorem copyP_ct (hz : HasRz P) (hp : HasRfc P) {pv : V} {L : List PcO} (hs : Hs H R) (hr : PcsRd R pv L) (hL : L.length * 56 ≤ 140737488351232) (hws : ∀ o ∈ L, o.ws.length ≤ 17592186040000)
    (hQ : ∀ ov L' H', L'.map PcO.key = L.map PcO.key → Hs H' (StO ov L' R) → Q (.ret ov) H') : Call P 191 [pv] H Q := by
  obtain ⟨pa, pc, pe, rfl⟩ := (hr.arr H hs).shape
  refine call_of hp.h_burinref0_CopyPieces rfl ?_
  simp -implicitDefEqProofs -dsimp (disch := omega) only [go_sem, Nat.reduceEqDiff, ↓reduceIte, Nat.reduceAdd, Nat.reduceMul, Nat.reduceSub, Nat.reduceLT, Nat.reduceLeDiff, Int.reduceLT, Int.reduceLE, Int.reduceEq, Int.reduceNeg, Int.reduceAdd, Int.reduceMul, Int.reduceSub, Int.reduceToNat, reduceCtorEq, dec_t, dec_f, ]
  have h0 : Hs H (StO (.sl none 0 0 0) [] R) := hs.lst (Same.refl _ _) (own_nil _ 5) fun _ h => h.elim
  refine loop_dec (σ := CpS) (fun x => L.length - x.i) (fun x => ⟨[(0, .sl pa L.length pc pe), (3, x.ov), (4, .int .i64 (x.i : Nat))], []⟩)
    (fun x H => x.i ≤ L.length ∧ x.L.map PcO.key = (L.take x.i).map PcO.key ∧ Hs H (StO x.ov x.L R)) (fun x H1 K ⟨hi, hk, h1⟩ hn hx hrr => ?_) ⟨0, .sl none 0 0 0, []⟩ H ⟨Nat.zero_le _, rfl, h0⟩
  obtain ⟨i, ov, M⟩ := x
  dsimp only at hi hk h1 hn
  have hMl : M.length = i := by have := congrArg List.length hk; simp at this; omega
  have drop : ∀ {H'} {A : List As}, Hs H' (A ++ StO ov M R) → Hs H' R := fun {H' A} h => (h.drops.tail).drops
  by_cases hlt : i < L.length
  · have hmem := List.getElem_mem hlt
    have etk : L.take (i + 1) = L.take i ++ [L[i]] := (List.take_append_getElem hlt).symm
    have rr := fun {H'} {A : List As} (h : Hs H' (A ++ StO ov M R)) => po_rd (hr.arr H' (drop h)) hlt
    generalize L[i] = o at rr hmem etk
    have hbt := hr.bits o hmem
    have hwl := hws o hmem
    obtain ⟨xb, xo, xc, ev, r1, r2, r3⟩ := rr (A := []) h1
    cases ev
    obtain ⟨va, vc, ve, hov⟩ := (hbt H1 (drop (A := []) h1)).shape
    obtain ⟨ox, oy, ow, oh, ow', ows⟩ := o
    dsimp only at hov hbt hwl
    subst hov
    have q0 := r2 0 (by omega)
    have q1 := r2 1 (by omega)
    rw [Nat.add_zero] at q0
    simp -implicitDefEqProofs -dsimp (disch := omega) only [go_sem, Nat.reduceEqDiff, ↓reduceIte, Nat.reduceAdd, Nat.reduceMul, Nat.reduceSub, Nat.reduceLT, Nat.reduceLeDiff, Int.reduceLT, Int.reduceLE, Int.reduceEq, Int.reduceNeg, Int.reduceAdd, Int.reduceMul, Int.reduceSub, Int.reduceToNat, reduceCtorEq, dec_t, dec_f, burinref0_CopyPieces_l0, Int.toNat_natCast, q0, q1, r3, PcO.cs]
    refine copyR_ct hz h1 (hbt H1 (drop (A := []) h1)) hwl fun v' H2 h2 _ => ?_
    obtain ⟨xb', xo', xc', ev, s1, s2, s3⟩ := rr (A := [_]) h2
    cases ev
    have q0 := s2 0 (by omega)
    have q1 := s2 1 (by omega)
    rw [Nat.add_zero] at q0
    obtain ⟨wa, wc, we, rfl⟩ := h2.own.arr.shape
    obtain ⟨ov', H3, ha, hoo, hsm, hff⟩ := app_oneT h2.p1.own (M := [.int .i64 ox, .int .i64 oy, .int .i64 ow, .int .i64 oh, .sl wa ows.length wc we]) (m := 1) (eb := 56) rfl rfl (by omega) (by omega)
    have h3 := h2.p1.lst' hsm hoo hff
    simp -implicitDefEqProofs -dsimp (disch := omega) only [go_sem, Nat.reduceEqDiff, ↓reduceIte, Nat.reduceAdd, Nat.reduceMul, Nat.reduceSub, Nat.reduceLT, Nat.reduceLeDiff, Int.reduceLT, Int.reduceLE, Int.reduceEq, Int.reduceNeg, Int.reduceAdd, Int.reduceMul, Int.reduceSub, Int.reduceToNat, reduceCtorEq, dec_t, dec_f, ]
    refine aft_intro (t := tag _) (by simp [rechecks, recheck, fresh, Fr.get, Fr.put, look, step, opd, q0, q1, PcO.cs, Int.toNat_natCast]) ?_
    simp -implicitDefEqProofs -dsimp (disch := omega) only [go_sem, Nat.reduceEqDiff, ↓reduceIte, Nat.reduceAdd, Nat.reduceMul, Nat.reduceSub, Nat.reduceLT, Nat.reduceLeDiff, Int.reduceLT, Int.reduceLE, Int.reduceEq, Int.reduceNeg, Int.reduceAdd, Int.reduceMul, Int.reduceSub, Int.reduceToNat, reduceCtorEq, dec_t, dec_f, ha, w64, cadd1]
    refine hn ⟨i + 1, ov', M ++ [⟨ox, oy, ow, oh, .sl wa ows.length wc we, ows⟩]⟩ H3 (by dsimp only; omega) ⟨hlt, ?_, ?_⟩
    · dsimp only
      rw [List.map_append, hk, etk, List.map_append]; rfl
    · dsimp only
      unfold StO
      rw [poCells_snoc, List.length_append]
      refine Hs.perm h3 ?_
      classical
      refine List.perm_iff_count.2 fun x => ?_
      simp only [List.map_append, List.map_cons, List.map_nil, List.count_append, List.count_cons, List.count_nil, PcO.as, PcO.cs, List.length_cons, List.length_nil]
      ac_rfl
  · obtain rfl : i = L.length := by omega
    rw [List.take_length] at hk
    simp -implicitDefEqProofs -dsimp (disch := omega) only [go_sem, Nat.reduceEqDiff, ↓reduceIte, Nat.reduceAdd, Nat.reduceMul, Nat.reduceSub, Nat.reduceLT, Nat.reduceLeDiff, Int.reduceLT, Int.reduceLE, Int.reduceEq, Int.reduceNeg, Int.reduceAdd, Int.reduceMul, Int.reduceSub, Int.reduceToNat, reduceCtorEq, dec_t, dec_f, burinref0_CopyPieces_l0]
    rw [hx]
    simp -implicitDefEqProofs -dsimp (disch := omega) only [go_sem, Nat.reduceEqDiff, ↓reduceIte, Nat.reduceAdd, Nat.reduceMul, Nat.reduceSub, Nat.reduceLT, Nat.reduceLeDiff, Int.reduceLT, Int.reduceLE, Int.reduceEq, Int.reduceNeg, Int.reduceAdd, Int.reduceMul, Int.reduceSub, Int.reduceToNat, reduceCtorEq, dec_t, dec_f, ]
    exact hQ ov M H1 hk h1
theorem key_take {L1 L2 : List PcO} {i : Nat} (h1 : i < L1.length) (h2 : i < L2.length) (h : (L1.take i).map PcO.key = (L2.take i).map PcO.key) (e : L1[i].key = L2[i].key) : (L1.take (i + 1)).map PcO.key = (L2.take (i + 1)).map PcO.key := by
  rw [← List.take_append_getElem h1, ← List.take_append_getElem h2, List.map_append, List.map_append, h, List.map_cons, List.map_cons, e]
theorem key_ne {L1 L2 : List PcO} {i : Nat} (h1 : i < L1.length) (h2 : i < L2.length) (e : L1[i].key ≠ L2[i].key) : ¬ L1.map PcO.key = L2.map PcO.key := fun h => e (by
  have := congrArg (fun l => l[i]?) h
  simpa [h1, h2] using this)
set_option maxHeartbeats 1000000 in
theorem eqP_ct (hz : HasRz P) (hp : HasRfc P) {pv1 pv2 : V} {L1 L2 : List PcO} (hs : Hs H R) (hr1 : PcsRd R pv1 L1) (hr2 : PcsRd R pv2 L2) (hL : L1.length ≤ 281474976710656) (hws : ∀ o ∈ L1, o.ws.length ≤ 281474976710656)
    (hQ : ∀ H', Hs H' R → Q (.ret (.bool (decide (L1.map PcO.key = L2.map PcO.key)))) H') : Call P 180 [pv1, pv2] H Q := by
  obtain ⟨pa, pc, pe, rfl⟩ := (hr1.arr H hs).shape
  obtain ⟨qa, qc, qe, rfl⟩ := (hr2.arr H hs).shape
  refine call_of hp.h_burinref0_EqPieces rfl ?_
  by_cases hlen : L1.length = L2.length
  rotate_left
  · simp -implicitDefEqProofs -dsimp (disch := omega) only [go_sem, Nat.reduceEqDiff, ↓reduceIte, Nat.reduceAdd, Nat.reduceMul, Nat.reduceSub, Nat.reduceLT, Nat.reduceLeDiff, Int.reduceLT, Int.reduceLE, Int.reduceEq, Int.reduceNeg, Int.reduceAdd, Int.reduceMul, Int.reduceSub, Int.reduceToNat, reduceCtorEq, dec_t, dec_f, ]
    have : ¬ L1.map PcO.key = L2.map PcO.key := fun h => hlen (by simpa using congrArg List.length h)
    rw [decide_eq_false this] at hQ
    exact hQ H hs
  simp -implicitDefEqProofs -dsimp (disch := omega) only [go_sem, Nat.reduceEqDiff, ↓reduceIte, Nat.reduceAdd, Nat.reduceMul, Nat.reduceSub, Nat.reduceLT, Nat.reduceLeDiff, Int.reduceLT, Int.reduceLE, Int.reduceEq, Int.reduceNeg, Int.reduceAdd, Int.reduceMul, Int.reduceSub, Int.reduceToNat, reduceCtorEq, dec_t, dec_f, ]
  refine loop_cnt L1.length (fun i => ⟨[(0, .sl pa L1.length pc pe), (1, .sl qa L2.length qc qe), (5, .int .i64 (i : Nat))], []⟩)
    (fun i H => (L1.take i).map PcO.key = (L2.take i).map PcO.key ∧ Hs H R) (fun i H1 K hi ⟨hk, h1⟩ hn hx hrr => ?_) 0 H (Nat.zero_le _) ⟨rfl, hs⟩
  by_cases hlt : i < L1.length
  · have hlt2 : i < L2.length := by omega
    have hm1 := List.getElem_mem hlt
    have hm2 := List.getElem_mem hlt2
    have kt := key_take hlt hlt2 hk
    have kn := key_ne hlt hlt2
    obtain ⟨xb, xo, xc, ev, r1, r2, r3⟩ := po_rd (hr1.arr H1 h1) hlt
    cases ev
    obtain ⟨yb, yo, yc, ev, s1, s2, s3⟩ := po_rd (hr2.arr H1 h1) hlt2
    cases ev
    generalize L1[i] = o1 at *
    generalize L2[i] = o2 at *
    have b1 := hr1.bits o1 hm1 H1 h1
    have b2 := hr2.bits o2 hm2 H1 h1
    have hw1 := hws o1 hm1
    obtain ⟨va, vc, ve, hv1⟩ := b1.shape
    obtain ⟨wa, wc, we, hv2⟩ := b2.shape
    obtain ⟨x1, y1, w1, g1, v1, ws1⟩ := o1
    obtain ⟨x2, y2, w2, g2, v2, ws2⟩ := o2
    dsimp only at b1 b2 hw1 hv1 hv2 r3 s3
    subst hv1 hv2
    have q0 := r2 0 (by omega)
    have q1 := r2 1 (by omega)
    have t0 := s2 0 (by omega)
    have t1 := s2 1 (by omega)
    rw [Nat.add_zero] at q0 t0
    have bad : (⟨x1, y1, w1, g1, V.sl va ws1.length vc ve, ws1⟩ : PcO).key ≠ (⟨x2, y2, w2, g2, V.sl wa ws2.length wc we, ws2⟩ : PcO).key → ∀ H', Hs H' R → Q (.ret (.bool false)) H' := fun h H' h' => by
      have := hQ H' h'
      rwa [decide_eq_false (kn h)] at this
    by_cases ex : x1 = x2
    · subst ex
      by_cases ey : y1 = y2
      · subst ey
        simp -implicitDefEqProofs -dsimp (disch := omega) only [go_sem, Nat.reduceEqDiff, ↓reduceIte, Nat.reduceAdd, Nat.reduceMul, Nat.reduceSub, Nat.reduceLT, Nat.reduceLeDiff, Int.reduceLT, Int.reduceLE, Int.reduceEq, Int.reduceNeg, Int.reduceAdd, Int.reduceMul, Int.reduceSub, Int.reduceToNat, reduceCtorEq, dec_t, dec_f, burinref0_EqPieces_l0, Int.toNat_natCast, q0, q1, t0, t1, r3, s3, PcO.cs, d_gre]
        refine eqb_ct hz h1 b1 b2 hw1 fun H2 h2 _ => ?_
        by_cases ew : w1 = w2 ∧ g1 = g2 ∧ ws1 = ws2
        · rw [decide_eq_true ew]
          obtain ⟨rfl, rfl, rfl⟩ := ew
          simp -implicitDefEqProofs -dsimp (disch := omega) only [go_sem, Nat.reduceEqDiff, ↓reduceIte, Nat.reduceAdd, Nat.reduceMul, Nat.reduceSub, Nat.reduceLT, Nat.reduceLeDiff, Int.reduceLT, Int.reduceLE, Int.reduceEq, Int.reduceNeg, Int.reduceAdd, Int.reduceMul, Int.reduceSub, Int.reduceToNat, reduceCtorEq, dec_t, dec_f, w64, cadd1]
          exact hn hlt H2 ⟨kt rfl, h2⟩
        · rw [decide_eq_false ew]
          simp -implicitDefEqProofs -dsimp (disch := omega) only [go_sem, Nat.reduceEqDiff, ↓reduceIte, Nat.reduceAdd, Nat.reduceMul, Nat.reduceSub, Nat.reduceLT, Nat.reduceLeDiff, Int.reduceLT, Int.reduceLE, Int.reduceEq, Int.reduceNeg, Int.reduceAdd, Int.reduceMul, Int.reduceSub, Int.reduceToNat, reduceCtorEq, dec_t, dec_f, ]
          rw [hrr]
          simp -implicitDefEqProofs -dsimp (disch := omega) only [go_sem, Nat.reduceEqDiff, ↓reduceIte, Nat.reduceAdd, Nat.reduceMul, Nat.reduceSub, Nat.reduceLT, Nat.reduceLeDiff, Int.reduceLT, Int.reduceLE, Int.reduceEq, Int.reduceNeg, Int.reduceAdd, Int.reduceMul, Int.reduceSub, Int.reduceToNat, reduceCtorEq, dec_t, dec_f, ]
          refine bad (fun h => ew ?_) H2 h2
          simp only [PcO.key, Prod.mk.injEq] at h
          exact ⟨h.2.2.1, h.2.2.2.1, h.2.2.2.2⟩
      · simp -implicitDefEqProofs -dsimp (disch := omega) only [go_sem, Nat.reduceEqDiff, ↓reduceIte, Nat.reduceAdd, Nat.reduceMul, Nat.reduceSub, Nat.reduceLT, Nat.reduceLeDiff, Int.reduceLT, Int.reduceLE, Int.reduceEq, Int.reduceNeg, Int.reduceAdd, Int.reduceMul, Int.reduceSub, Int.reduceToNat, reduceCtorEq, dec_t, dec_f, burinref0_EqPieces_l0, Int.toNat_natCast, q0, q1, t0, t1, r3, s3, PcO.cs, d_gre]
        rw [hrr]
        simp -implicitDefEqProofs -dsimp (disch := omega) only [go_sem, Nat.reduceEqDiff, ↓reduceIte, Nat.reduceAdd, Nat.reduceMul, Nat.reduceSub, Nat.reduceLT, Nat.reduceLeDiff, Int.reduceLT, Int.reduceLE, Int.reduceEq, Int.reduceNeg, Int.reduceAdd, Int.reduceMul, Int.reduceSub, Int.reduceToNat, reduceCtorEq, dec_t, dec_f, ]
        refine bad (fun h => ey ?_) H1 h1
        simp only [PcO.key, Prod.mk.injEq] at h
        exact h.2.1
    · simp -implicitDefEqProofs -dsimp (disch := omega) only [go_sem, Nat.reduceEqDiff, ↓reduceIte, Nat.reduceAdd, Nat.reduceMul, Nat.reduceSub, Nat.reduceLT, Nat.reduceLeDiff, Int.reduceLT, Int.reduceLE, Int.reduceEq, Int.reduceNeg, Int.reduceAdd, Int.reduceMul, Int.reduceSub, Int.reduceToNat, reduceCtorEq, dec_t, dec_f, burinref0_EqPieces_l0, Int.toNat_natCast, q0, q1, t0, t1, r3, s3, PcO.cs, d_gre]
      rw [hrr]
      simp -implicitDefEqProofs -dsimp (disch := omega) only [go_sem, Nat.reduceEqDiff, ↓reduceIte, Nat.reduceAdd, Nat.reduceMul, Nat.reduceSub, Nat.reduceLT, Nat.reduceLeDiff, Int.reduceLT, Int.reduceLE, Int.reduceEq, Int.reduceNeg, Int.reduceAdd, Int.reduceMul, Int.reduceSub, Int.reduceToNat, reduceCtorEq, dec_t, dec_f, ]
      refine bad (fun h => ex ?_) H1 h1
      simp only [PcO.key, Prod.mk.injEq] at h
      exact h.1
  · obtain rfl : i = L1.length := by omega
    rw [List.take_length, hlen, List.take_length] at hk
    rw [decide_eq_true hk] at hQ
    simp -implicitDefEqProofs -dsimp (disch := omega) only [go_sem, Nat.reduceEqDiff, ↓reduceIte, Nat.reduceAdd, Nat.reduceMul, Nat.reduceSub, Nat.reduceLT, Nat.reduceLeDiff, Int.reduceLT, Int.reduceLE, Int.reduceEq, Int.reduceNeg, Int.reduceAdd, Int.reduceMul, Int.reduceSub, Int.reduceToNat, reduceCtorEq, dec_t, dec_f, burinref0_EqPieces_l0]
    rw [hx]
    simp -implicitDefEqProofs -dsimp (disch := omega) only [go_sem, Nat.reduceEqDiff, ↓reduceIte, Nat.reduceAdd, Nat.reduceMul, Nat.reduceSub, Nat.reduceLT, Nat.reduceLeDiff, Int.reduceLT, Int.reduceLE, Int.reduceEq, Int.reduceNeg, Int.reduceAdd, Int.reduceMul, Int.reduceSub, Int.reduceToNat, reduceCtorEq, dec_t, dec_f, ]
    exact hQ H1 h1
end
end Go.Ab
