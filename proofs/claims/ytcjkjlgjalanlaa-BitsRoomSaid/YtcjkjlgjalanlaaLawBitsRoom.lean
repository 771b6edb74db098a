/- The law BitsRoom: a writer takes bits up to its room. Conditions: none. -/
import Derived.Test.YtcjkjlgjalanlaaBv
set_option linter.all false
namespace Go.Ab

def BrI (H : Heap) (p : Nat) (most : Int) (v : V) (ops : List OpN) (w m : Nat) (k : Nat) (fr : Fr) (H' : Heap) : Prop :=
  ∃ (i : Nat) (l : List Bool), k = ops.length - i ∧ i ≤ ops.length ∧ i ≤ 300 ∧ fr = ⟨[(1, .ptr (some (p, 0))), (3, .int .i64 m), (4, .ptr (some (w, 0))), (6, .int .i64 i)], []⟩ ∧ Hs H' [WrA w l m, Cel p [.int .i64 most, v], Bas H]
def BrJ (H : Heap) (p : Nat) (most : Int) (v : V) (w m : Nat) (k : Nat) (fr : Fr) (H' : Heap) : Prop :=
  ∃ (l : List Bool), k = 8 * m - l.length ∧ l.length ≤ 8 * m ∧ fr.ds = [] ∧ look fr.tm 3 = some (.int .i64 m) ∧ look fr.tm 4 = some (.ptr (some (w, 0))) ∧ Hs H' [WrA w l m, Cel p [.int .i64 most, v], Bas H]

theorem bitsRoom {P : Prog} (hp : HasL1 P) {H : Heap} {most : Int} {v : V} {ops : List OpN} (hm : -9223372036854775808 ≤ most ∧ most ≤ 9223372036854775807) (hx : Arr H v 3 ops.length (opCells ops)) (ho : ∀ o ∈ ops, OpOk o)
    (hl : ops.length ≤ 140737488351232) : Call P 35 [.agg [.int .i64 most, v]] H fun o _ => o = .ret (.bool true) := by
  obtain ⟨a, c, e', rfl⟩ := hx.shape
  refine call_of hp.law.h_burinlaw1_BitsRoom rfl ?_
  have h1 := (Hs.start H).alloc (l := [.int .i64 most, .sl a ops.length c e'])
  have h1lt := h1.celt
  simp -implicitDefEqProofs -dsimp (disch := omega) only [go_sem, Nat.reduceEqDiff, ↓reduceIte, Nat.reduceAdd, Nat.reduceMul, Nat.reduceSub, Nat.reduceLT, Nat.reduceLeDiff, Int.reduceLT, Int.reduceLE, Int.reduceEq, Int.reduceNeg, Int.reduceAdd, Int.reduceMul, Int.reduceSub, Int.reduceToNat, reduceCtorEq, ]
  refine within_ct hp.kit.h_burinkit_Within (n := 40) hm (by omega) (by omega) ?_
  have hm40 : (most % (40 : Nat)).toNat < 40 := by omega
  generalize (most % (40 : Nat)).toNat = m at hm40
  generalize H.new (.cells [.int .i64 most, .sl a ops.length c e'] true) = H1 at h1 h1lt
  generalize H.next = p at h1 h1lt
  simp -implicitDefEqProofs -dsimp (disch := omega) only [go_sem, Nat.reduceEqDiff, ↓reduceIte, Nat.reduceAdd, Nat.reduceMul, Nat.reduceSub, Nat.reduceLT, Nat.reduceLeDiff, Int.reduceLT, Int.reduceLE, Int.reduceEq, Int.reduceNeg, Int.reduceAdd, Int.reduceMul, Int.reduceSub, Int.reduceToNat, reduceCtorEq, ]
  refine newWriterA hp.bits h1 (by omega) (fun h => by omega) (fun _ _ w H2 h2 => ?_)
  rw [Int.toNat_natCast] at h2
  simp -implicitDefEqProofs -dsimp (disch := omega) only [go_sem, Nat.reduceEqDiff, ↓reduceIte, Nat.reduceAdd, Nat.reduceMul, Nat.reduceSub, Nat.reduceLT, Nat.reduceLeDiff, Int.reduceLT, Int.reduceLE, Int.reduceEq, Int.reduceNeg, Int.reduceAdd, Int.reduceMul, Int.reduceSub, Int.reduceToNat, reduceCtorEq, ]
  refine loop_inv (BrI H p most _ ops w m) ?_ ops.length _ _ ⟨0, [], by omega, by omega, by omega, rfl, h2⟩
  rintro k fr H3 ⟨i, l, hk, hi, hi3, rfl, h3⟩
  generalize hK : rnd (BrI H p most _ ops w m) k = K
  have hc := h3.p1.cel
  have hroom := wRoom h3
  by_cases hlt : i < ops.length ∧ i < 300
  · obtain ⟨hi1, hi2⟩ := hlt
    obtain ⟨b, o, c2, e2⟩ := hx.at0 (by omega)
    cases e2
    have hr := opRead (hx.same h3.p2.base (fun _ _ h => h)) hi1
    have hok := ho _ (List.getElem_mem hi1)
    generalize ops[i] = q at hr hok
    simp -implicitDefEqProofs -dsimp (disch := omega) only [go_sem, Nat.reduceEqDiff, ↓reduceIte, Nat.reduceAdd, Nat.reduceMul, Nat.reduceSub, Nat.reduceLT, Nat.reduceLeDiff, Int.reduceLT, Int.reduceLE, Int.reduceEq, Int.reduceNeg, Int.reduceAdd, Int.reduceMul, Int.reduceSub, Int.reduceToNat, reduceCtorEq, dec_t, dec_f, burinlaw1_BitsRoom_l1, rd_s hc, Int.toNat_natCast, hr.r2]
    refine within_ct hp.kit.h_burinkit_Within (n := 65) hok.2.2 (by omega) (by omega) ?_
    have hw65 : (q.2.2 % (65 : Nat)).toNat ≤ 64 := by omega
    generalize (q.2.2 % (65 : Nat)).toNat = wd at hw65
    simp -implicitDefEqProofs -dsimp (disch := omega) only [go_sem, Nat.reduceEqDiff, ↓reduceIte, Nat.reduceAdd, Nat.reduceMul, Nat.reduceSub, Nat.reduceLT, Nat.reduceLeDiff, Int.reduceLT, Int.reduceLE, Int.reduceEq, Int.reduceNeg, Int.reduceAdd, Int.reduceMul, Int.reduceSub, Int.reduceToNat, reduceCtorEq, dec_t, dec_f, rd_s hc, Int.toNat_natCast, hr.r1]
    refine lif_join (fun fr' H' => H' = H3 ∧ ∃ n' ex, n' < 18446744073709551616 ∧ (wd < 64 → n' < 2 ^ wd) ∧ fr' = ⟨(1, .ptr (some (p, 0))) :: (3, .int .i64 m) :: (4, .ptr (some (w, 0))) :: (6, .int .i64 i) :: (7, .int .i64 wd) :: (8, .int .u64 (n' : Nat)) :: ex, []⟩) ?_ ?_
    · refine lif_dec (fun h => ?_) (fun h => ?_)
      · have hwd : wd < 64 := by omega
        have hpos := Nat.two_pow_pos wd
        simp -implicitDefEqProofs -dsimp (disch := omega) only [go_sem, Nat.reduceEqDiff, ↓reduceIte, Nat.reduceAdd, Nat.reduceMul, Nat.reduceSub, Nat.reduceLT, Nat.reduceLeDiff, Int.reduceLT, Int.reduceLE, Int.reduceEq, Int.reduceNeg, Int.reduceAdd, Int.reduceMul, Int.reduceSub, Int.reduceToNat, reduceCtorEq, wu64, shl1 hwd, pow_pos2, tmodN, cmodN]
        exact ⟨rfl, q.2.1 % 2 ^ wd, [], Nat.lt_of_le_of_lt (Nat.mod_le _ _) hok.2.1, fun _ => Nat.mod_lt _ hpos, rfl⟩
      · simp -implicitDefEqProofs -dsimp (disch := omega) only [go_sem, Nat.reduceEqDiff, ↓reduceIte, Nat.reduceAdd, Nat.reduceMul, Nat.reduceSub, Nat.reduceLT, Nat.reduceLeDiff, Int.reduceLT, Int.reduceLE, Int.reduceEq, Int.reduceNeg, Int.reduceAdd, Int.reduceMul, Int.reduceSub, Int.reduceToNat, reduceCtorEq, ]
        exact ⟨rfl, q.2.1, _, hok.2.1, fun h => by omega, rfl⟩
    · rintro fr' H' ⟨rfl, n, ex, hn, hn2, rfl⟩
      simp -implicitDefEqProofs -dsimp (disch := omega) only [go_sem, Nat.reduceEqDiff, ↓reduceIte, Nat.reduceAdd, Nat.reduceMul, Nat.reduceSub, Nat.reduceLT, Nat.reduceLeDiff, Int.reduceLT, Int.reduceLE, Int.reduceEq, Int.reduceNeg, Int.reduceAdd, Int.reduceMul, Int.reduceSub, Int.reduceToNat, reduceCtorEq, ]
      refine wLenA hp.bits h3 ?_
      simp -implicitDefEqProofs -dsimp (disch := omega) only [go_sem, Nat.reduceEqDiff, ↓reduceIte, Nat.reduceAdd, Nat.reduceMul, Nat.reduceSub, Nat.reduceLT, Nat.reduceLeDiff, Int.reduceLT, Int.reduceLE, Int.reduceEq, Int.reduceNeg, Int.reduceAdd, Int.reduceMul, Int.reduceSub, Int.reduceToNat, reduceCtorEq, ]
      refine wPutA hp.bits h3 hn (by omega) (fun H4 h4 => ?_)
      by_cases hfull : 8 * m < l.length + wd
      · rw [wPut_full hw65 hn2 hfull] at h4 ⊢
        simp -implicitDefEqProofs -dsimp (disch := omega) only [go_sem, Nat.reduceEqDiff, ↓reduceIte, Nat.reduceAdd, Nat.reduceMul, Nat.reduceSub, Nat.reduceLT, Nat.reduceLeDiff, Int.reduceLT, Int.reduceLE, Int.reduceEq, Int.reduceNeg, Int.reduceAdd, Int.reduceMul, Int.reduceSub, Int.reduceToNat, reduceCtorEq, dec_t, dec_f, w64]
        refine wLenA hp.bits h4 ?_
        simp -implicitDefEqProofs -dsimp (disch := omega) only [go_sem, Nat.reduceEqDiff, ↓reduceIte, Nat.reduceAdd, Nat.reduceMul, Nat.reduceSub, Nat.reduceLT, Nat.reduceLeDiff, Int.reduceLT, Int.reduceLE, Int.reduceEq, Int.reduceNeg, Int.reduceAdd, Int.reduceMul, Int.reduceSub, Int.reduceToNat, reduceCtorEq, dec_t, dec_f, w64]
        subst hK
        refine rnd_n (ops.length - (i + 1)) (by omega) ⟨i + 1, l, rfl, by omega, by omega, rfl, h4⟩
      · rw [wPut_ok hw65 hn2 (by omega)] at h4 ⊢
        have hbl : (l ++ bitsOf n wd).length = l.length + wd := by rw [List.length_append, bitsOf_length]
        simp -implicitDefEqProofs -dsimp (disch := omega) only [go_sem, Nat.reduceEqDiff, ↓reduceIte, Nat.reduceAdd, Nat.reduceMul, Nat.reduceSub, Nat.reduceLT, Nat.reduceLeDiff, Int.reduceLT, Int.reduceLE, Int.reduceEq, Int.reduceNeg, Int.reduceAdd, Int.reduceMul, Int.reduceSub, Int.reduceToNat, reduceCtorEq, dec_t, dec_f, ]
        refine wLenA hp.bits h4 ?_
        simp -implicitDefEqProofs -dsimp (disch := omega) only [go_sem, Nat.reduceEqDiff, ↓reduceIte, Nat.reduceAdd, Nat.reduceMul, Nat.reduceSub, Nat.reduceLT, Nat.reduceLeDiff, Int.reduceLT, Int.reduceLE, Int.reduceEq, Int.reduceNeg, Int.reduceAdd, Int.reduceMul, Int.reduceSub, Int.reduceToNat, reduceCtorEq, dec_t, dec_f, w64]
        refine wLenA hp.bits h4 ?_
        simp -implicitDefEqProofs -dsimp (disch := omega) only [go_sem, Nat.reduceEqDiff, ↓reduceIte, Nat.reduceAdd, Nat.reduceMul, Nat.reduceSub, Nat.reduceLT, Nat.reduceLeDiff, Int.reduceLT, Int.reduceLE, Int.reduceEq, Int.reduceNeg, Int.reduceAdd, Int.reduceMul, Int.reduceSub, Int.reduceToNat, reduceCtorEq, dec_t, dec_f, w64]
        subst hK
        refine rnd_n (ops.length - (i + 1)) (by omega) ⟨i + 1, l ++ bitsOf n wd, rfl, by omega, by omega, rfl, h4⟩
  · rcases (show i = ops.length ∨ (i < ops.length ∧ i = 300) by omega) with h | h <;>
    · simp -implicitDefEqProofs -dsimp (disch := omega) only [go_sem, Nat.reduceEqDiff, ↓reduceIte, Nat.reduceAdd, Nat.reduceMul, Nat.reduceSub, Nat.reduceLT, Nat.reduceLeDiff, Int.reduceLT, Int.reduceLE, Int.reduceEq, Int.reduceNeg, Int.reduceAdd, Int.reduceMul, Int.reduceSub, Int.reduceToNat, reduceCtorEq, dec_t, dec_f, burinlaw1_BitsRoom_l1, rd_s hc]
      subst hK
      simp -implicitDefEqProofs -dsimp (disch := omega) only [go_sem, Nat.reduceEqDiff, ↓reduceIte, Nat.reduceAdd, Nat.reduceMul, Nat.reduceSub, Nat.reduceLT, Nat.reduceLeDiff, Int.reduceLT, Int.reduceLE, Int.reduceEq, Int.reduceNeg, Int.reduceAdd, Int.reduceMul, Int.reduceSub, Int.reduceToNat, reduceCtorEq, dec_t, dec_f, ]
      refine loop_inv (BrJ H p most _ w m) ?_ _ _ _ ⟨l, rfl, by omega, rfl, rfl, rfl, h3⟩
      rintro k2 ⟨tm, ds⟩ H5 ⟨l5, hk5, hl5, hds, t3, t4, h5⟩
      cases hds
      dsimp only at t3 t4
      generalize hK2 : rnd (BrJ H p most _ w m) k2 = K2
      simp -implicitDefEqProofs -dsimp (disch := omega) only [go_sem, Nat.reduceEqDiff, ↓reduceIte, Nat.reduceAdd, Nat.reduceMul, Nat.reduceSub, Nat.reduceLT, Nat.reduceLeDiff, Int.reduceLT, Int.reduceLE, Int.reduceEq, Int.reduceNeg, Int.reduceAdd, Int.reduceMul, Int.reduceSub, Int.reduceToNat, reduceCtorEq, burinlaw1_BitsRoom_l0, t3, t4]
      refine wLenA hp.bits h5 ?_
      by_cases hful : l5.length < 8 * m
      · simp -implicitDefEqProofs -dsimp (disch := omega) only [go_sem, Nat.reduceEqDiff, ↓reduceIte, Nat.reduceAdd, Nat.reduceMul, Nat.reduceSub, Nat.reduceLT, Nat.reduceLeDiff, Int.reduceLT, Int.reduceLE, Int.reduceEq, Int.reduceNeg, Int.reduceAdd, Int.reduceMul, Int.reduceSub, Int.reduceToNat, reduceCtorEq, dec_t, dec_f, w64]
        refine wPutA hp.bits (n := 1) (k := 1) h5 (by omega) (by omega) (fun H6 h6 => ?_)
        have e6 := wPut_ok (l := l5) (most := m) (n := 1) (k := 1) (by omega) (by omega) (by omega)
        rw [show ((1 : Nat) : Int) = 1 from rfl] at e6
        rw [e6] at h6 ⊢
        have hbl : (l5 ++ bitsOf 1 1).length = l5.length + 1 := by rw [List.length_append, bitsOf_length]
        simp -implicitDefEqProofs -dsimp (disch := omega) only [go_sem, Nat.reduceEqDiff, ↓reduceIte, Nat.reduceAdd, Nat.reduceMul, Nat.reduceSub, Nat.reduceLT, Nat.reduceLeDiff, Int.reduceLT, Int.reduceLE, Int.reduceEq, Int.reduceNeg, Int.reduceAdd, Int.reduceMul, Int.reduceSub, Int.reduceToNat, reduceCtorEq, dec_t, dec_f, ]
        subst hK2
        exact rnd_n (8 * m - (l5 ++ bitsOf 1 1).length) (by omega) ⟨l5 ++ bitsOf 1 1, rfl, by omega, rfl, rfl, rfl, h6⟩
      · have hlen : l5.length = 8 * m := by omega
        simp -implicitDefEqProofs -dsimp (disch := omega) only [go_sem, Nat.reduceEqDiff, ↓reduceIte, Nat.reduceAdd, Nat.reduceMul, Nat.reduceSub, Nat.reduceLT, Nat.reduceLeDiff, Int.reduceLT, Int.reduceLE, Int.reduceEq, Int.reduceNeg, Int.reduceAdd, Int.reduceMul, Int.reduceSub, Int.reduceToNat, reduceCtorEq, dec_t, dec_f, w64]
        subst hK2
        simp -implicitDefEqProofs -dsimp (disch := omega) only [go_sem, Nat.reduceEqDiff, ↓reduceIte, Nat.reduceAdd, Nat.reduceMul, Nat.reduceSub, Nat.reduceLT, Nat.reduceLeDiff, Int.reduceLT, Int.reduceLE, Int.reduceEq, Int.reduceNeg, Int.reduceAdd, Int.reduceMul, Int.reduceSub, Int.reduceToNat, reduceCtorEq, dec_t, dec_f, ]
        refine wPutA hp.bits (n := 0) (k := 1) h5 (by omega) (by omega) (fun H6 h6 => ?_)
        have e6 := wPut_full (l := l5) (most := m) (n := 0) (k := 1) (by omega) (by omega) (by omega)
        rw [show ((1 : Nat) : Int) = 1 from rfl] at e6
        rw [e6] at h6 ⊢
        simp -implicitDefEqProofs -dsimp (disch := omega) only [go_sem, Nat.reduceEqDiff, ↓reduceIte, Nat.reduceAdd, Nat.reduceMul, Nat.reduceSub, Nat.reduceLT, Nat.reduceLeDiff, Int.reduceLT, Int.reduceLE, Int.reduceEq, Int.reduceNeg, Int.reduceAdd, Int.reduceMul, Int.reduceSub, Int.reduceToNat, reduceCtorEq, dec_t, dec_f, ]
        refine wPutA hp.bits (n := 0) (k := 0) h6 (by omega) (by omega) (fun H7 h7 => ?_)
        have e7 := wPut_ok (l := l5) (most := m) (n := 0) (k := 0) (by omega) (by omega) (by omega)
        rw [show ((0 : Nat) : Int) = 0 from rfl, show l5 ++ bitsOf 0 0 = l5 by simp [bitsOf]] at e7
        rw [e7] at h7 ⊢
        simp -implicitDefEqProofs -dsimp (disch := omega) only [go_sem, Nat.reduceEqDiff, ↓reduceIte, Nat.reduceAdd, Nat.reduceMul, Nat.reduceSub, Nat.reduceLT, Nat.reduceLeDiff, Int.reduceLT, Int.reduceLE, Int.reduceEq, Int.reduceNeg, Int.reduceAdd, Int.reduceMul, Int.reduceSub, Int.reduceToNat, reduceCtorEq, dec_t, dec_f, ]
        refine wVarA hp.bits (n := 0) h7 (by omega) (fun H8 h8 => ?_)
        have e8 : wVar l5 m 0 = (13, l5) := by rw [wVar, if_pos]; rw [show groups 0 = [0] by rw [groups, if_pos (by omega)]]; simp; omega
        rw [e8] at h8 ⊢
        simp -implicitDefEqProofs -dsimp (disch := omega) only [go_sem, Nat.reduceEqDiff, ↓reduceIte, Nat.reduceAdd, Nat.reduceMul, Nat.reduceSub, Nat.reduceLT, Nat.reduceLeDiff, Int.reduceLT, Int.reduceLE, Int.reduceEq, Int.reduceNeg, Int.reduceAdd, Int.reduceMul, Int.reduceSub, Int.reduceToNat, reduceCtorEq, dec_t, dec_f, ]
        refine wBytesA hp.bits h8 (fun y H9 h9 => ?_)
        obtain ⟨a9, c9, e9, hy⟩ := h9.own.arr.shape
        subst hy
        have hpl := pack_length l5
        simp -implicitDefEqProofs -dsimp (disch := omega) only [go_sem, Nat.reduceEqDiff, ↓reduceIte, Nat.reduceAdd, Nat.reduceMul, Nat.reduceSub, Nat.reduceLT, Nat.reduceLeDiff, Int.reduceLT, Int.reduceLE, Int.reduceEq, Int.reduceNeg, Int.reduceAdd, Int.reduceMul, Int.reduceSub, Int.reduceToNat, reduceCtorEq, dec_t, dec_f, ]
        refine wakes hp (fun H10 _ => ?_)
        simp -implicitDefEqProofs -dsimp (disch := omega) only [go_sem, Nat.reduceEqDiff, ↓reduceIte, Nat.reduceAdd, Nat.reduceMul, Nat.reduceSub, Nat.reduceLT, Nat.reduceLeDiff, Int.reduceLT, Int.reduceLE, Int.reduceEq, Int.reduceNeg, Int.reduceAdd, Int.reduceMul, Int.reduceSub, Int.reduceToNat, reduceCtorEq, dec_t, dec_f, ]
end Go.Ab
namespace Go.Ab
theorem law_BitsRoom {P : Prog} (hp : HasL1 P) (H : Heap) (cs : List V) (x : TD.Ty scriptTD) (h : Is H scriptTD cs x) : Call P 35 [argV scriptTD cs] H fun o _ => o = .ret (.bool true) := by
  obtain ⟨most, v, ops, rfl, h1, h2, h3, h4⟩ := is_script h
  exact bitsRoom hp h1 h2 h3 h4
end Go.Ab
