/- The law BitsWrites: any writer, anything written, beside the reference's. Conditions: none. -/
import Derived.Test.YtcjkjlgjalanlaaBv
set_option linter.all false
namespace Go.Ab

def BwI (H : Heap) (p : Nat) (most : Int) (v : V) (ops : List OpN) (w r m : Nat) (k : Nat) (fr : Fr) (H' : Heap) : Prop :=
  ∃ (i : Nat) (l : List Bool), k = ops.length - i ∧ i ≤ ops.length ∧ i ≤ 300 ∧ fr = ⟨[(1, .ptr (some (p, 0))), (3, .ptr (some (w, 0))), (5, .ptr (some (r, 0))), (6, .int .i64 i)], []⟩ ∧ Hs H' [WrA w l m, RWA r l m, Cel p [.int .i64 most, v], Bas H]

theorem bitsWrites {P : Prog} (hp : HasL1 P) {H : Heap} {most : Int} {v : V} {ops : List OpN} (hm : -9223372036854775808 ≤ most ∧ most ≤ 9223372036854775807) (hx : Arr H v 3 ops.length (opCells ops)) (ho : ∀ o ∈ ops, OpOk o)
    (hl : ops.length ≤ 140737488351232) : Call P 34 [.agg [.int .i64 most, v]] H fun o _ => o = .ret (.bool true) := by
  obtain ⟨a, c, e', rfl⟩ := hx.shape
  refine call_of hp.law.h_burinlaw1_BitsWrites rfl ?_
  have h1 := (Hs.start H).alloc (l := [.int .i64 most, .sl a ops.length c e'])
  have hc1 := h1.cel
  simp -implicitDefEqProofs -dsimp (disch := omega) only [go_sem, Nat.reduceEqDiff, ↓reduceIte, Nat.reduceAdd, Nat.reduceMul, Nat.reduceSub, Nat.reduceLT, Nat.reduceLeDiff, Int.reduceLT, Int.reduceLE, Int.reduceEq, Int.reduceNeg, Int.reduceAdd, Int.reduceMul, Int.reduceSub, Int.reduceToNat, reduceCtorEq, ]
  generalize H.new (.cells [.int .i64 most, .sl a ops.length c e'] true) = H1 at h1 hc1
  generalize H.next = p at h1 hc1
  refine newWriterA hp.bits h1 hm (fun hbad => ?_) (fun hm0 hm1 w H2 h2 => ?_)
  · simp -implicitDefEqProofs -dsimp (disch := omega) only [go_sem, Nat.reduceEqDiff, ↓reduceIte, Nat.reduceAdd, Nat.reduceMul, Nat.reduceSub, Nat.reduceLT, Nat.reduceLeDiff, Int.reduceLT, Int.reduceLE, Int.reduceEq, Int.reduceNeg, Int.reduceAdd, Int.reduceMul, Int.reduceSub, Int.reduceToNat, reduceCtorEq, rd_s hc1]
    rcases (show most < 0 ∨ (¬ most < 0 ∧ 67108864 < most) by omega) with h | h <;>
    · simp -implicitDefEqProofs -dsimp (disch := omega) only [go_sem, Nat.reduceEqDiff, ↓reduceIte, Nat.reduceAdd, Nat.reduceMul, Nat.reduceSub, Nat.reduceLT, Nat.reduceLeDiff, Int.reduceLT, Int.reduceLE, Int.reduceEq, Int.reduceNeg, Int.reduceAdd, Int.reduceMul, Int.reduceSub, Int.reduceToNat, reduceCtorEq, dec_t, dec_f, rd_s hc1]
      refine wakes hp (fun H10 _ => ?_)
      simp -implicitDefEqProofs -dsimp (disch := omega) only [go_sem, Nat.reduceEqDiff, ↓reduceIte, Nat.reduceAdd, Nat.reduceMul, Nat.reduceSub, Nat.reduceLT, Nat.reduceLeDiff, Int.reduceLT, Int.reduceLE, Int.reduceEq, Int.reduceNeg, Int.reduceAdd, Int.reduceMul, Int.reduceSub, Int.reduceToNat, reduceCtorEq, dec_t, dec_f, ]
  · have hc2 := h2.p1.cel
    obtain ⟨m, rfl⟩ : ∃ m : Nat, most = m := ⟨most.toNat, by omega⟩
    rw [Int.toNat_natCast] at h2
    simp -implicitDefEqProofs -dsimp (disch := omega) only [go_sem, Nat.reduceEqDiff, ↓reduceIte, Nat.reduceAdd, Nat.reduceMul, Nat.reduceSub, Nat.reduceLT, Nat.reduceLeDiff, Int.reduceLT, Int.reduceLE, Int.reduceEq, Int.reduceNeg, Int.reduceAdd, Int.reduceMul, Int.reduceSub, Int.reduceToNat, reduceCtorEq, dec_t, dec_f, rd_s hc2]
    have h3 : Hs (H2.new (.cells [.int .i64 m, .sl none 0 0 0] true)) (RWA H2.next [] m :: WrA w [] m :: Cel p [.int .i64 m, .sl a ops.length c e'] :: [Bas H]) :=
      h2.new (Same.new _ _ _) ⟨_, ⟨_, fun _ => Iff.rfl, ⟨by simp [get_new], own_nil _ _, by simp [next_new], fun h => h.elim, by simp, by omega⟩⟩, fun b hb => hb.elim (fun e => by omega) False.elim⟩
    generalize H2.new (.cells [.int .i64 m, .sl none 0 0 0] true) = H3 at h3
    generalize H2.next = r at h3
    refine loop_inv (BwI H p m _ ops w r m) ?_ ops.length _ _ ⟨0, [], by omega, by omega, by omega, rfl, h3.p1⟩
    rintro k fr H4 ⟨i, l, hk, hi, hi3, rfl, h4⟩
    generalize hK : rnd (BwI H p m _ ops w r m) k = K
    have hc := h4.p2.cel
    have hroom := wRoom h4
    by_cases hlt : i < ops.length ∧ i < 300
    · obtain ⟨hi1, hi2⟩ := hlt
      obtain ⟨b, o, c2, e2⟩ := hx.at0 (by omega)
      cases e2
      have hr := opRead (hx.same h4.p3.base (fun _ _ h => h)) hi1
      have hok := ho _ (List.getElem_mem hi1)
      generalize ops[i] = q at hr hok
      obtain ⟨qd, qn, qw⟩ := q
      obtain ⟨hd, hn, hw⟩ := hok
      dsimp only at hd hn hw
      have h5 := h4.alloc (l := [.int .i64 qd, .int .u64 qn, .int .i64 qw])
      have hc5 := h5.cel
      simp -implicitDefEqProofs -dsimp (disch := omega) only [go_sem, Nat.reduceEqDiff, ↓reduceIte, Nat.reduceAdd, Nat.reduceMul, Nat.reduceSub, Nat.reduceLT, Nat.reduceLeDiff, Int.reduceLT, Int.reduceLE, Int.reduceEq, Int.reduceNeg, Int.reduceAdd, Int.reduceMul, Int.reduceSub, Int.reduceToNat, reduceCtorEq, dec_t, dec_f, burinlaw1_BitsWrites_l0, rd_s hc, Int.toNat_natCast, hr.ra]
      generalize H4.new (.cells [.int .i64 qd, .int .u64 qn, .int .i64 qw] true) = H5 at h5 hc5
      generalize H4.next = bo at h5 hc5
      refine lif_all (fun fr' H' => ∃ (l' : List Bool) (f : Int) (ex : List (Nat × V)), fr' = ⟨(1, .ptr (some (p, 0))) :: (3, .ptr (some (w, 0))) :: (5, .ptr (some (r, 0))) :: (6, .int .i64 i) :: (8, .int .i64 f) :: (9, .int .i64 f) :: ex, []⟩ ∧
        Hs H' [WrA w l' m, RWA r l' m, Cel p [.int .i64 m, .sl (some (b, o)) ops.length c 3], Bas H]) ?_ ?_
      · refine lif_dec (fun h0 => ?_) (fun h0 => ?_)
        · simp -implicitDefEqProofs -dsimp (disch := omega) only [go_sem, Nat.reduceEqDiff, ↓reduceIte, Nat.reduceAdd, Nat.reduceMul, Nat.reduceSub, Nat.reduceLT, Nat.reduceLeDiff, Int.reduceLT, Int.reduceLE, Int.reduceEq, Int.reduceNeg, Int.reduceAdd, Int.reduceMul, Int.reduceSub, Int.reduceToNat, reduceCtorEq, dec_t, dec_f, rd_s hc5]
          refine wPutA hp.bits h5.p1 hn hw (fun H6 h6 => ?_)
          have hc6 := h6.p1.cel
          simp -implicitDefEqProofs -dsimp (disch := omega) only [go_sem, Nat.reduceEqDiff, ↓reduceIte, Nat.reduceAdd, Nat.reduceMul, Nat.reduceSub, Nat.reduceLT, Nat.reduceLeDiff, Int.reduceLT, Int.reduceLE, Int.reduceEq, Int.reduceNeg, Int.reduceAdd, Int.reduceMul, Int.reduceSub, Int.reduceToNat, reduceCtorEq, dec_t, dec_f, rd_s hc6]
          refine rwPutA hp.ref h6.p2 hn hw (fun H7 h7 => ?_)
          simp -implicitDefEqProofs -dsimp (disch := omega) only [go_sem, Nat.reduceEqDiff, ↓reduceIte, Nat.reduceAdd, Nat.reduceMul, Nat.reduceSub, Nat.reduceLT, Nat.reduceLeDiff, Int.reduceLT, Int.reduceLE, Int.reduceEq, Int.reduceNeg, Int.reduceAdd, Int.reduceMul, Int.reduceSub, Int.reduceToNat, reduceCtorEq, dec_t, dec_f, ]
          exact ⟨_, _, [], rfl, h7.p2.tail.p1⟩
        · simp -implicitDefEqProofs -dsimp (disch := omega) only [go_sem, Nat.reduceEqDiff, ↓reduceIte, Nat.reduceAdd, Nat.reduceMul, Nat.reduceSub, Nat.reduceLT, Nat.reduceLeDiff, Int.reduceLT, Int.reduceLE, Int.reduceEq, Int.reduceNeg, Int.reduceAdd, Int.reduceMul, Int.reduceSub, Int.reduceToNat, reduceCtorEq, dec_t, dec_f, ]
          refine lif_dec (fun h0 => ?_) (fun h0 => ?_)
          · simp -implicitDefEqProofs -dsimp (disch := omega) only [go_sem, Nat.reduceEqDiff, ↓reduceIte, Nat.reduceAdd, Nat.reduceMul, Nat.reduceSub, Nat.reduceLT, Nat.reduceLeDiff, Int.reduceLT, Int.reduceLE, Int.reduceEq, Int.reduceNeg, Int.reduceAdd, Int.reduceMul, Int.reduceSub, Int.reduceToNat, reduceCtorEq, dec_t, dec_f, rd_s hc5]
            refine wVarA hp.bits h5.p1 hn (fun H6 h6 => ?_)
            have hc6 := h6.p1.cel
            simp -implicitDefEqProofs -dsimp (disch := omega) only [go_sem, Nat.reduceEqDiff, ↓reduceIte, Nat.reduceAdd, Nat.reduceMul, Nat.reduceSub, Nat.reduceLT, Nat.reduceLeDiff, Int.reduceLT, Int.reduceLE, Int.reduceEq, Int.reduceNeg, Int.reduceAdd, Int.reduceMul, Int.reduceSub, Int.reduceToNat, reduceCtorEq, dec_t, dec_f, rd_s hc6]
            refine rwVarA hp.ref h6.p2 hn (fun H7 h7 => ?_)
            simp -implicitDefEqProofs -dsimp (disch := omega) only [go_sem, Nat.reduceEqDiff, ↓reduceIte, Nat.reduceAdd, Nat.reduceMul, Nat.reduceSub, Nat.reduceLT, Nat.reduceLeDiff, Int.reduceLT, Int.reduceLE, Int.reduceEq, Int.reduceNeg, Int.reduceAdd, Int.reduceMul, Int.reduceSub, Int.reduceToNat, reduceCtorEq, dec_t, dec_f, ]
            exact ⟨_, _, [], rfl, h7.p2.tail.p1⟩
          · simp -implicitDefEqProofs -dsimp (disch := omega) only [go_sem, Nat.reduceEqDiff, ↓reduceIte, Nat.reduceAdd, Nat.reduceMul, Nat.reduceSub, Nat.reduceLT, Nat.reduceLeDiff, Int.reduceLT, Int.reduceLE, Int.reduceEq, Int.reduceNeg, Int.reduceAdd, Int.reduceMul, Int.reduceSub, Int.reduceToNat, reduceCtorEq, dec_t, dec_f, ]
            refine wAlignA hp.bits h5.p1 (fun H6 h6 => ?_)
            simp -implicitDefEqProofs -dsimp (disch := omega) only [go_sem, Nat.reduceEqDiff, ↓reduceIte, Nat.reduceAdd, Nat.reduceMul, Nat.reduceSub, Nat.reduceLT, Nat.reduceLeDiff, Int.reduceLT, Int.reduceLE, Int.reduceEq, Int.reduceNeg, Int.reduceAdd, Int.reduceMul, Int.reduceSub, Int.reduceToNat, reduceCtorEq, dec_t, dec_f, ]
            refine rwAlignA hp.ref h6.p2 (fun H7 h7 => ?_)
            simp -implicitDefEqProofs -dsimp (disch := omega) only [go_sem, Nat.reduceEqDiff, ↓reduceIte, Nat.reduceAdd, Nat.reduceMul, Nat.reduceSub, Nat.reduceLT, Nat.reduceLeDiff, Int.reduceLT, Int.reduceLE, Int.reduceEq, Int.reduceNeg, Int.reduceAdd, Int.reduceMul, Int.reduceSub, Int.reduceToNat, reduceCtorEq, dec_t, dec_f, ]
            exact ⟨_, _, [], rfl, h7.p2.tail.p1⟩
      · rintro fr' H' ⟨l', f, ex, rfl, h8⟩
        simp -implicitDefEqProofs -dsimp (disch := omega) only [go_sem, Nat.reduceEqDiff, ↓reduceIte, Nat.reduceAdd, Nat.reduceMul, Nat.reduceSub, Nat.reduceLT, Nat.reduceLeDiff, Int.reduceLT, Int.reduceLE, Int.reduceEq, Int.reduceNeg, Int.reduceAdd, Int.reduceMul, Int.reduceSub, Int.reduceToNat, reduceCtorEq, dec_t, dec_f, ]
        refine wBytesA hp.bits h8 (fun y H9 h9 => ?_)
        obtain ⟨ra, rc, re, hrc⟩ := rwCell h9.p2
        have hpl := pack_length l'
        have hroom' := wRoom h9.p1
        simp -implicitDefEqProofs -dsimp (disch := omega) only [go_sem, Nat.reduceEqDiff, ↓reduceIte, Nat.reduceAdd, Nat.reduceMul, Nat.reduceSub, Nat.reduceLT, Nat.reduceLeDiff, Int.reduceLT, Int.reduceLE, Int.reduceEq, Int.reduceNeg, Int.reduceAdd, Int.reduceMul, Int.reduceSub, Int.reduceToNat, reduceCtorEq, dec_t, dec_f, rd_s hrc, d_gre]
        refine wLenA hp.bits h9.p1 ?_
        simp -implicitDefEqProofs -dsimp (disch := omega) only [go_sem, Nat.reduceEqDiff, ↓reduceIte, Nat.reduceAdd, Nat.reduceMul, Nat.reduceSub, Nat.reduceLT, Nat.reduceLeDiff, Int.reduceLT, Int.reduceLE, Int.reduceEq, Int.reduceNeg, Int.reduceAdd, Int.reduceMul, Int.reduceSub, Int.reduceToNat, reduceCtorEq, dec_t, dec_f, ]
        refine aft_intro (by simp [rechecks, recheck, fresh, Fr.get, look, step, opd, rd_s hrc]) ?_
        simp -implicitDefEqProofs -dsimp (disch := omega) only [go_sem, Nat.reduceEqDiff, ↓reduceIte, Nat.reduceAdd, Nat.reduceMul, Nat.reduceSub, Nat.reduceLT, Nat.reduceLeDiff, Int.reduceLT, Int.reduceLE, Int.reduceEq, Int.reduceNeg, Int.reduceAdd, Int.reduceMul, Int.reduceSub, Int.reduceToNat, reduceCtorEq, dec_t, dec_f, ]
        refine rwBytesA hp.ref h9.p2 (fun y2 H10 h10 => ?_)
        simp -implicitDefEqProofs -dsimp (disch := omega) only [go_sem, Nat.reduceEqDiff, ↓reduceIte, Nat.reduceAdd, Nat.reduceMul, Nat.reduceSub, Nat.reduceLT, Nat.reduceLeDiff, Int.reduceLT, Int.reduceLE, Int.reduceEq, Int.reduceNeg, Int.reduceAdd, Int.reduceMul, Int.reduceSub, Int.reduceToNat, reduceCtorEq, dec_t, dec_f, ]
        refine eqA hp.kit h10.p2.own.arr h10.own.arr (by omega) ?_
        rw [show decide (pack l' = pack l') = true by simp]
        simp -implicitDefEqProofs -dsimp (disch := omega) only [go_sem, Nat.reduceEqDiff, ↓reduceIte, Nat.reduceAdd, Nat.reduceMul, Nat.reduceSub, Nat.reduceLT, Nat.reduceLeDiff, Int.reduceLT, Int.reduceLE, Int.reduceEq, Int.reduceNeg, Int.reduceAdd, Int.reduceMul, Int.reduceSub, Int.reduceToNat, reduceCtorEq, dec_t, dec_f, ]
        refine overA hp.kit h10.p2 (by omega) (fun H11 h11 => ?_)
        simp -implicitDefEqProofs -dsimp (disch := omega) only [go_sem, Nat.reduceEqDiff, ↓reduceIte, Nat.reduceAdd, Nat.reduceMul, Nat.reduceSub, Nat.reduceLT, Nat.reduceLeDiff, Int.reduceLT, Int.reduceLE, Int.reduceEq, Int.reduceNeg, Int.reduceAdd, Int.reduceMul, Int.reduceSub, Int.reduceToNat, reduceCtorEq, dec_t, dec_f, w64, cadd1]
        subst hK
        exact rnd_n (ops.length - (i + 1)) (by omega) ⟨i + 1, l', rfl, by omega, by omega, rfl, h11.tail.p1⟩
    · rcases (show i = ops.length ∨ (i < ops.length ∧ i = 300) by omega) with h | h <;>
      · simp -implicitDefEqProofs -dsimp (disch := omega) only [go_sem, Nat.reduceEqDiff, ↓reduceIte, Nat.reduceAdd, Nat.reduceMul, Nat.reduceSub, Nat.reduceLT, Nat.reduceLeDiff, Int.reduceLT, Int.reduceLE, Int.reduceEq, Int.reduceNeg, Int.reduceAdd, Int.reduceMul, Int.reduceSub, Int.reduceToNat, reduceCtorEq, dec_t, dec_f, burinlaw1_BitsWrites_l0, rd_s hc]
        subst hK
        simp -implicitDefEqProofs -dsimp (disch := omega) only [go_sem, Nat.reduceEqDiff, ↓reduceIte, Nat.reduceAdd, Nat.reduceMul, Nat.reduceSub, Nat.reduceLT, Nat.reduceLeDiff, Int.reduceLT, Int.reduceLE, Int.reduceEq, Int.reduceNeg, Int.reduceAdd, Int.reduceMul, Int.reduceSub, Int.reduceToNat, reduceCtorEq, dec_t, dec_f, ]
        refine wakes hp (fun H10 _ => ?_)
        simp -implicitDefEqProofs -dsimp (disch := omega) only [go_sem, Nat.reduceEqDiff, ↓reduceIte, Nat.reduceAdd, Nat.reduceMul, Nat.reduceSub, Nat.reduceLT, Nat.reduceLeDiff, Int.reduceLT, Int.reduceLE, Int.reduceEq, Int.reduceNeg, Int.reduceAdd, Int.reduceMul, Int.reduceSub, Int.reduceToNat, reduceCtorEq, dec_t, dec_f, ]
theorem law_BitsWrites {P : Prog} (hp : HasL1 P) (H : Heap) (cs : List V) (x : TD.Ty scriptTD) (h : Is H scriptTD cs x) : Call P 34 [argV scriptTD cs] H fun o _ => o = .ret (.bool true) := by
  obtain ⟨most, v, ops, rfl, h1, h2, h3, h4⟩ := is_script h
  exact bitsWrites hp h1 h2 h3 h4
end Go.Ab
