/- The law BitsReads: any bytes, anything read, beside the reference's. Conditions: none. -/
import Derived.Test.YtcjkjlgjalanlaaBx
set_option linter.all false
namespace Go.Ab

def BdI (H : Heap) (p : Nat) (y v : V) (ops : List OpN) (bs : List Nat) (r s : Nat) (k : Nat) (fr : Fr) (H' : Heap) : Prop :=
  ∃ (i a : Nat), k = ops.length - i ∧ i ≤ ops.length ∧ i ≤ 300 ∧ fr = ⟨[(1, .ptr (some (p, 0))), (4, .ptr (some (r, 0))), (5, .ptr (some (s, 0))), (6, .int .i64 i)], []⟩ ∧ Hs H' [RdA r bs a, RQA s y a, Cel p [y, v], Bas H]

theorem bitsReads {P : Prog} (hp : HasL1 P) {H : Heap} {y v : V} {bs : List Nat} {ops : List OpN} (hy : Arr H y 1 bs.length (u8s bs)) (hs : ∀ b ∈ bs, b < 256) (hbl : bs.length ≤ 140737488351232)
    (hx : Arr H v 3 ops.length (opCells ops)) (ho : ∀ o ∈ ops, OpOk o) (hl : ops.length ≤ 140737488351232) : Call P 37 [.agg [y, v]] H fun o _ => o = .ret (.bool true) := by
  obtain ⟨a, c, e', rfl⟩ := hx.shape
  obtain ⟨a2, c2, e2, rfl⟩ := hy.shape
  refine call_of hp.law.h_burinlaw1_BitsReads rfl ?_
  have h1 := (Hs.start H).alloc (l := [.sl a2 bs.length c2 e2, .sl a ops.length c e'])
  have hc1 := h1.cel
  simp -implicitDefEqProofs -dsimp (disch := omega) only [go_sem, Nat.reduceEqDiff, ↓reduceIte, Nat.reduceAdd, Nat.reduceMul, Nat.reduceSub, Nat.reduceLT, Nat.reduceLeDiff, Int.reduceLT, Int.reduceLE, Int.reduceEq, Int.reduceNeg, Int.reduceAdd, Int.reduceMul, Int.reduceSub, Int.reduceToNat, reduceCtorEq, ]
  generalize H.new (.cells [.sl a2 bs.length c2 e2, .sl a ops.length c e'] true) = H1 at h1 hc1
  generalize H.next = p at h1 hc1
  refine lendA hp.kit h1 (hy.same h1.p1.base fun _ _ h => h) (by omega) (fun B H2 h2 => ?_)
  simp -implicitDefEqProofs -dsimp (disch := omega) only [go_sem, Nat.reduceEqDiff, ↓reduceIte, Nat.reduceAdd, Nat.reduceMul, Nat.reduceSub, Nat.reduceLT, Nat.reduceLeDiff, Int.reduceLT, Int.reduceLE, Int.reduceEq, Int.reduceNeg, Int.reduceAdd, Int.reduceMul, Int.reduceSub, Int.reduceToNat, reduceCtorEq, dec_t, dec_f, ]
  have hxa : Arr H2 (.sl (some (B, 0)) bs.length (bs.length + 7) 1) 1 bs.length (u8s bs) := Or.inr ⟨B, 0, bs.length + 7, _, true, rfl, h2.cel, by simp [u8s], by simp [u8s], by omega, h2.celt⟩
  refine newReaderA hp.bits h2 hxa hs (by omega) (fun r H3 h3 => ?_)
  have hc3 := h3.p2.cel
  simp -implicitDefEqProofs -dsimp (disch := omega) only [go_sem, Nat.reduceEqDiff, ↓reduceIte, Nat.reduceAdd, Nat.reduceMul, Nat.reduceSub, Nat.reduceLT, Nat.reduceLeDiff, Int.reduceLT, Int.reduceLE, Int.reduceEq, Int.reduceNeg, Int.reduceAdd, Int.reduceMul, Int.reduceSub, Int.reduceToNat, reduceCtorEq, dec_t, dec_f, rd_s hc3]
  refine backA hp.kit h3.p1 (hy.same h3.p3.base fun _ _ h => h) (by omega) (fun H4 h4 => ?_)
  have hc4 := h4.p1.cel
  simp -implicitDefEqProofs -dsimp (disch := omega) only [go_sem, Nat.reduceEqDiff, ↓reduceIte, Nat.reduceAdd, Nat.reduceMul, Nat.reduceSub, Nat.reduceLT, Nat.reduceLeDiff, Int.reduceLT, Int.reduceLE, Int.reduceEq, Int.reduceNeg, Int.reduceAdd, Int.reduceMul, Int.reduceSub, Int.reduceToNat, reduceCtorEq, dec_t, dec_f, rd_s hc4]
  have h5 : Hs (H4.new (.cells [.sl a2 bs.length c2 e2, .int .i64 (0 : Nat)] true)) [RQA H4.next (.sl a2 bs.length c2 e2) 0, RdA r bs 0, Cel p [.sl a2 bs.length c2 e2, .sl a ops.length c e'], Bas H] :=
    h4.new (Same.new _ _ _) ⟨fun b => b = H4.next, ⟨fun _ => Iff.rfl, by simp [get_new], by simp [next_new], fun h => by have := hy.lt h; have := h4.p2.base.le; omega⟩, fun b hb => by omega⟩
  rw [show ((0 : Nat) : Int) = 0 from rfl] at h5
  generalize H4.new (.cells [.sl a2 bs.length c2 e2, .int .i64 0] true) = H5 at h5
  generalize H4.next = s at h5
  refine loop_inv (BdI H p _ _ ops bs r s) ?_ ops.length _ _ ⟨0, 0, by omega, by omega, by omega, rfl, h5.p1⟩
  rintro k fr H6 ⟨i, at_, hk, hi, hi3, rfl, h6⟩
  generalize hK : rnd (BdI H p _ _ ops bs r s) k = K
  have hc := h6.p2.cel
  by_cases hlt : i < ops.length ∧ i < 300
  · obtain ⟨hi1, hi2⟩ := hlt
    obtain ⟨b, o, c3, e3⟩ := hx.at0 (by omega)
    cases e3
    have hr := opRead (hx.same h6.p3.base (fun _ _ h => h)) hi1
    have hok := ho _ (List.getElem_mem hi1)
    generalize ops[i] = q at hr hok
    obtain ⟨qd, qn, qw⟩ := q
    obtain ⟨hd, hn, hw⟩ := hok
    dsimp only at hd hn hw
    have h7 := h6.alloc (l := [.int .i64 qd, .int .u64 qn, .int .i64 qw])
    have hc7 := h7.cel
    simp -implicitDefEqProofs -dsimp (disch := omega) only [go_sem, Nat.reduceEqDiff, ↓reduceIte, Nat.reduceAdd, Nat.reduceMul, Nat.reduceSub, Nat.reduceLT, Nat.reduceLeDiff, Int.reduceLT, Int.reduceLE, Int.reduceEq, Int.reduceNeg, Int.reduceAdd, Int.reduceMul, Int.reduceSub, Int.reduceToNat, reduceCtorEq, dec_t, dec_f, burinlaw1_BitsReads_l0, rd_s hc, Int.toNat_natCast, hr.ra]
    generalize H6.new (.cells [.int .i64 qd, .int .u64 qn, .int .i64 qw] true) = H7 at h7 hc7
    generalize H6.next = bo at h7 hc7
    have rd1 : ∀ {H' a' R}, a' ≤ 8 * bs.length → Hs H' (Bas H :: R) → Read1 H' (.sl a2 bs.length c2 e2) bs a' := fun ha h => ⟨hy.same h.base fun _ _ h => h, hs, ha, by omega⟩
    refine lif_all (fun fr' H' => ∃ (a' : Nat) (f : Int) (n : Nat) (ex : List (Nat × V)), fr' = ⟨(1, .ptr (some (p, 0))) :: (4, .ptr (some (r, 0))) :: (5, .ptr (some (s, 0))) :: (6, .int .i64 i) :: (8, .int .u64 n) :: (9, .int .u64 n) :: (10, .int .i64 f) :: (11, .int .i64 f) :: ex, []⟩ ∧
      Hs H' [RdA r bs a', RQA s (.sl a2 bs.length c2 e2) a', Cel p [.sl a2 bs.length c2 e2, .sl (some (b, o)) ops.length c 3], Bas H]) ?_ ?_
    · refine lif_dec (fun h0 => ?_) (fun h0 => ?_)
      · simp -implicitDefEqProofs -dsimp (disch := omega) only [go_sem, Nat.reduceEqDiff, ↓reduceIte, Nat.reduceAdd, Nat.reduceMul, Nat.reduceSub, Nat.reduceLT, Nat.reduceLeDiff, Int.reduceLT, Int.reduceLE, Int.reduceEq, Int.reduceNeg, Int.reduceAdd, Int.reduceMul, Int.reduceSub, Int.reduceToNat, reduceCtorEq, dec_t, dec_f, rd_s hc7]
        refine rTakeA hp.bits h7.p1 (fun H8 h8 => ?_)
        have hc8 := h8.p1.cel
        have hro := rRoom h7.p1
        simp -implicitDefEqProofs -dsimp (disch := omega) only [go_sem, Nat.reduceEqDiff, ↓reduceIte, Nat.reduceAdd, Nat.reduceMul, Nat.reduceSub, Nat.reduceLT, Nat.reduceLeDiff, Int.reduceLT, Int.reduceLE, Int.reduceEq, Int.reduceNeg, Int.reduceAdd, Int.reduceMul, Int.reduceSub, Int.reduceToNat, reduceCtorEq, dec_t, dec_f, rd_s hc8]
        refine rrTakeA hp.ref h8.p2 (rd1 hro.1 h8.p4) (fun H9 h9 => ?_)
        simp -implicitDefEqProofs -dsimp (disch := omega) only [go_sem, Nat.reduceEqDiff, ↓reduceIte, Nat.reduceAdd, Nat.reduceMul, Nat.reduceSub, Nat.reduceLT, Nat.reduceLeDiff, Int.reduceLT, Int.reduceLE, Int.reduceEq, Int.reduceNeg, Int.reduceAdd, Int.reduceMul, Int.reduceSub, Int.reduceToNat, reduceCtorEq, dec_t, dec_f, ]
        exact ⟨_, _, _, [], rfl, h9.p2.tail.p1⟩
      · simp -implicitDefEqProofs -dsimp (disch := omega) only [go_sem, Nat.reduceEqDiff, ↓reduceIte, Nat.reduceAdd, Nat.reduceMul, Nat.reduceSub, Nat.reduceLT, Nat.reduceLeDiff, Int.reduceLT, Int.reduceLE, Int.reduceEq, Int.reduceNeg, Int.reduceAdd, Int.reduceMul, Int.reduceSub, Int.reduceToNat, reduceCtorEq, dec_t, dec_f, ]
        refine lif_dec (fun h0 => ?_) (fun h0 => ?_)
        · simp -implicitDefEqProofs -dsimp (disch := omega) only [go_sem, Nat.reduceEqDiff, ↓reduceIte, Nat.reduceAdd, Nat.reduceMul, Nat.reduceSub, Nat.reduceLT, Nat.reduceLeDiff, Int.reduceLT, Int.reduceLE, Int.reduceEq, Int.reduceNeg, Int.reduceAdd, Int.reduceMul, Int.reduceSub, Int.reduceToNat, reduceCtorEq, dec_t, dec_f, rd_s hc7]
          refine rVarA hp.bits h7.p1 (fun H8 h8 => ?_)
          have hro := rRoom h7.p1
          simp -implicitDefEqProofs -dsimp (disch := omega) only [go_sem, Nat.reduceEqDiff, ↓reduceIte, Nat.reduceAdd, Nat.reduceMul, Nat.reduceSub, Nat.reduceLT, Nat.reduceLeDiff, Int.reduceLT, Int.reduceLE, Int.reduceEq, Int.reduceNeg, Int.reduceAdd, Int.reduceMul, Int.reduceSub, Int.reduceToNat, reduceCtorEq, dec_t, dec_f, ]
          refine rrVarA hp.ref h8.p2 (rd1 hro.1 h8.p4) (fun H9 h9 => ?_)
          simp -implicitDefEqProofs -dsimp (disch := omega) only [go_sem, Nat.reduceEqDiff, ↓reduceIte, Nat.reduceAdd, Nat.reduceMul, Nat.reduceSub, Nat.reduceLT, Nat.reduceLeDiff, Int.reduceLT, Int.reduceLE, Int.reduceEq, Int.reduceNeg, Int.reduceAdd, Int.reduceMul, Int.reduceSub, Int.reduceToNat, reduceCtorEq, dec_t, dec_f, ]
          exact ⟨_, _, _, [], rfl, h9.p2.tail.p1⟩
        · simp -implicitDefEqProofs -dsimp (disch := omega) only [go_sem, Nat.reduceEqDiff, ↓reduceIte, Nat.reduceAdd, Nat.reduceMul, Nat.reduceSub, Nat.reduceLT, Nat.reduceLeDiff, Int.reduceLT, Int.reduceLE, Int.reduceEq, Int.reduceNeg, Int.reduceAdd, Int.reduceMul, Int.reduceSub, Int.reduceToNat, reduceCtorEq, dec_t, dec_f, ]
          refine rAlignA hp.bits h7.p1 (fun H8 h8 => ?_)
          have hro := rRoom h7.p1
          simp -implicitDefEqProofs -dsimp (disch := omega) only [go_sem, Nat.reduceEqDiff, ↓reduceIte, Nat.reduceAdd, Nat.reduceMul, Nat.reduceSub, Nat.reduceLT, Nat.reduceLeDiff, Int.reduceLT, Int.reduceLE, Int.reduceEq, Int.reduceNeg, Int.reduceAdd, Int.reduceMul, Int.reduceSub, Int.reduceToNat, reduceCtorEq, dec_t, dec_f, ]
          refine rrAlignA hp.ref h8.p2 (rd1 hro.1 h8.p4) (fun H9 h9 => ?_)
          simp -implicitDefEqProofs -dsimp (disch := omega) only [go_sem, Nat.reduceEqDiff, ↓reduceIte, Nat.reduceAdd, Nat.reduceMul, Nat.reduceSub, Nat.reduceLT, Nat.reduceLeDiff, Int.reduceLT, Int.reduceLE, Int.reduceEq, Int.reduceNeg, Int.reduceAdd, Int.reduceMul, Int.reduceSub, Int.reduceToNat, reduceCtorEq, dec_t, dec_f, ]
          exact ⟨_, _, 0, [], rfl, h9.p2.tail.p1⟩
    · rintro fr' H' ⟨a', f, n, ex, rfl, h8⟩
      have hro := rRoom h8
      simp -implicitDefEqProofs -dsimp (disch := omega) only [go_sem, Nat.reduceEqDiff, ↓reduceIte, Nat.reduceAdd, Nat.reduceMul, Nat.reduceSub, Nat.reduceLT, Nat.reduceLeDiff, Int.reduceLT, Int.reduceLE, Int.reduceEq, Int.reduceNeg, Int.reduceAdd, Int.reduceMul, Int.reduceSub, Int.reduceToNat, reduceCtorEq, dec_t, dec_f, ]
      refine rLeftA hp.bits h8 ?_
      simp -implicitDefEqProofs -dsimp (disch := omega) only [go_sem, Nat.reduceEqDiff, ↓reduceIte, Nat.reduceAdd, Nat.reduceMul, Nat.reduceSub, Nat.reduceLT, Nat.reduceLeDiff, Int.reduceLT, Int.reduceLE, Int.reduceEq, Int.reduceNeg, Int.reduceAdd, Int.reduceMul, Int.reduceSub, Int.reduceToNat, reduceCtorEq, dec_t, dec_f, ]
      refine rrLeftA hp.ref h8.p1 (rd1 hro.1 h8.p3) ?_
      simp -implicitDefEqProofs -dsimp (disch := omega) only [go_sem, Nat.reduceEqDiff, ↓reduceIte, Nat.reduceAdd, Nat.reduceMul, Nat.reduceSub, Nat.reduceLT, Nat.reduceLeDiff, Int.reduceLT, Int.reduceLE, Int.reduceEq, Int.reduceNeg, Int.reduceAdd, Int.reduceMul, Int.reduceSub, Int.reduceToNat, reduceCtorEq, dec_t, dec_f, w64, cadd1]
      subst hK
      exact rnd_n (ops.length - (i + 1)) (by omega) ⟨i + 1, a', rfl, by omega, by omega, rfl, h8⟩
  · rcases (show i = ops.length ∨ (i < ops.length ∧ i = 300) by omega) with h | h <;>
    · simp -implicitDefEqProofs -dsimp (disch := omega) only [go_sem, Nat.reduceEqDiff, ↓reduceIte, Nat.reduceAdd, Nat.reduceMul, Nat.reduceSub, Nat.reduceLT, Nat.reduceLeDiff, Int.reduceLT, Int.reduceLE, Int.reduceEq, Int.reduceNeg, Int.reduceAdd, Int.reduceMul, Int.reduceSub, Int.reduceToNat, reduceCtorEq, dec_t, dec_f, burinlaw1_BitsReads_l0, rd_s hc]
      subst hK
      simp -implicitDefEqProofs -dsimp (disch := omega) only [go_sem, Nat.reduceEqDiff, ↓reduceIte, Nat.reduceAdd, Nat.reduceMul, Nat.reduceSub, Nat.reduceLT, Nat.reduceLeDiff, Int.reduceLT, Int.reduceLE, Int.reduceEq, Int.reduceNeg, Int.reduceAdd, Int.reduceMul, Int.reduceSub, Int.reduceToNat, reduceCtorEq, dec_t, dec_f, ]
      refine wakes hp (fun H10 _ => ?_)
      simp -implicitDefEqProofs -dsimp (disch := omega) only [go_sem, Nat.reduceEqDiff, ↓reduceIte, Nat.reduceAdd, Nat.reduceMul, Nat.reduceSub, Nat.reduceLT, Nat.reduceLeDiff, Int.reduceLT, Int.reduceLE, Int.reduceEq, Int.reduceNeg, Int.reduceAdd, Int.reduceMul, Int.reduceSub, Int.reduceToNat, reduceCtorEq, dec_t, dec_f, ]
theorem law_BitsReads {P : Prog} (hp : HasL1 P) (H : Heap) (cs : List V) (x : TD.Ty readingTD) (h : Is H readingTD cs x) : Call P 37 [argV readingTD cs] H fun o _ => o = .ret (.bool true) := by
  obtain ⟨y, v, bs, ops, rfl, h1, h2, h3, h4, h5, h6⟩ := is_reading h
  exact bitsReads hp h1 h2 h3 h4 h5 h6
end Go.Ab
