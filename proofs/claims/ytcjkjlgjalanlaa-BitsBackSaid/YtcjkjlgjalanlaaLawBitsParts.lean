/- The law BitsParts: a number written, read in two parts. Conditions: none. -/
import Derived.Test.YtcjkjlgjalanlaaBx
set_option linter.all false
namespace Go.Ab

theorem bitsOf_cut (n a b : Nat) : bitsOf n (a + b) = bitsOf (n / 2 ^ b) a ++ bitsOf (n % 2 ^ b) b := by
  induction a with
  | zero =>
    rw [Nat.zero_add]
    show bitsOf n b = [] ++ bitsOf (n % 2 ^ b) b
    have : ∀ k, k ≤ b → bitsOf n k = bitsOf (n % 2 ^ b) k := fun k => by
      induction k with
      | zero => intro _; rfl
      | succ k ih => intro hk; rw [bitsOf, bitsOf, ih (by omega), Nat.testBit_mod_two_pow]; simp; omega
    rw [this b (Nat.le_refl _)]; rfl
  | succ a ih => rw [show a + 1 + b = (a + b) + 1 by omega, bitsOf, ih, bitsOf, Nat.testBit_div_two_pow, Nat.add_comm]; rfl
theorem toldN_cut (bs : List Nat) (at_ a b : Nat) : toldN bs at_ (a + b) = toldN bs at_ a * 2 ^ b + toldN bs (at_ + a) b := by
  induction b with
  | zero => simp [toldN]
  | succ b ih => rw [← Nat.add_assoc, toldN, ih, toldN, Nat.pow_succ, ← Nat.add_assoc, Nat.mul_add, Nat.add_assoc]; congr 1; rw [← Nat.mul_assoc, Nat.mul_comm 2, Nat.mul_assoc, Nat.mul_comm 2]

def wdOf (o : OpN) : Nat := (o.2.2 % ((65 : Nat) : Int)).toNat
theorem wdOf_le (o : OpN) : wdOf o ≤ 64 := by unfold wdOf; omega
def tot (ops : List OpN) (i : Nat) : Nat := ((ops.take i).map wdOf).sum
theorem tot_succ {ops : List OpN} {i : Nat} (h : i < ops.length) : tot ops (i + 1) = tot ops i + wdOf ops[i] := by
  unfold tot; rw [List.take_succ_eq_append_getElem h, List.map_append, List.sum_append]; simp only [List.map_cons, List.map_nil, List.sum_cons, List.sum_nil, Nat.add_zero]
theorem tot_le (ops : List OpN) : ∀ i, tot ops i ≤ 64 * i
  | 0 => by simp [tot]
  | i + 1 => by
    by_cases h : i < ops.length
    · rw [tot_succ h]; have := wdOf_le ops[i]; have := tot_le ops i; omega
    · have := tot_le ops i
      have e : tot ops (i + 1) = tot ops i := by unfold tot; rw [List.take_of_length_le (by omega), List.take_of_length_le (by omega)]
      omega
theorem tot_mono {ops : List OpN} {i j : Nat} (h : i ≤ j) : tot ops i ≤ tot ops j := by
  induction j with
  | zero => have : i = 0 := by omega
            subst this; exact Nat.le_refl _
  | succ j ih =>
    by_cases hj : i = j + 1
    · subst hj; exact Nat.le_refl _
    · have := ih (by omega)
      by_cases hl : j < ops.length
      · rw [tot_succ hl]; omega
      · have e : tot ops (j + 1) = tot ops j := by unfold tot; rw [List.take_of_length_le (by omega), List.take_of_length_le (by omega)]
        omega

def BpI (H : Heap) (p : Nat) (most : Int) (v : V) (ops : List OpN) (w r : Nat) (k : Nat) (fr : Fr) (H' : Heap) : Prop :=
  ∃ (i : Nat) (l : List Bool), k = ops.length - i ∧ i ≤ ops.length ∧ i ≤ 300 ∧ fr = ⟨[(1, .ptr (some (p, 0))), (3, .ptr (some (w, 0))), (5, .ptr (some (r, 0))), (7, .int .i64 i)], []⟩ ∧ l.length = tot ops i ∧
    Hs H' [WrA w l 67108864, WrA r l 67108864, Cel p [.int .i64 most, v], Bas H]
def BpJ (H : Heap) (p : Nat) (most : Int) (v : V) (ops : List OpN) (bs : List Nat) (r s : Nat) (R : List As) (k : Nat) (fr : Fr) (H' : Heap) : Prop :=
  ∃ i : Nat, k = ops.length - i ∧ i ≤ ops.length ∧ i ≤ 300 ∧ fr = ⟨[(1, .ptr (some (p, 0))), (12, .ptr (some (r, 0))), (13, .ptr (some (s, 0))), (14, .int .i64 i)], []⟩ ∧
    Hs H' (RdA r bs (tot ops i) :: RdA s bs (tot ops i) :: Cel p [.int .i64 most, v] :: Bas H :: R)

theorem rTake_ok {bs : List Nat} {a k : Nat} (hk : k ≤ 64) (h : a + k ≤ 8 * bs.length) : rTake bs a k = (toldN bs a k, 0, a + k) := by
  rw [rTake, if_neg (by omega), if_neg (by omega)]; rfl

theorem bitsParts {P : Prog} (hp : HasL1 P) {H : Heap} {most : Int} {v : V} {ops : List OpN} (hm : -9223372036854775808 ≤ most ∧ most ≤ 9223372036854775807) (hx : Arr H v 3 ops.length (opCells ops)) (ho : ∀ o ∈ ops, OpOk o)
    (hl : ops.length ≤ 140737488351232) : Call P 36 [.agg [.int .i64 most, v]] H fun o _ => o = .ret (.bool true) := by
  obtain ⟨a, c, e', rfl⟩ := hx.shape
  refine call_of hp.law.h_burinlaw1_BitsParts rfl ?_
  have h1 := (Hs.start H).alloc (l := [.int .i64 most, .sl a ops.length c e'])
  simp -implicitDefEqProofs -dsimp (disch := omega) only [go_sem, Nat.reduceEqDiff, ↓reduceIte, Nat.reduceAdd, Nat.reduceMul, Nat.reduceSub, Nat.reduceLT, Nat.reduceLeDiff, Int.reduceLT, Int.reduceLE, Int.reduceEq, Int.reduceNeg, Int.reduceAdd, Int.reduceMul, Int.reduceSub, Int.reduceToNat, reduceCtorEq, ]
  generalize H.new (.cells [.int .i64 most, .sl a ops.length c e'] true) = H1 at h1
  generalize H.next = p at h1
  refine newWriterA hp.bits (m := 67108864) h1 (by omega) (fun h => by omega) (fun _ _ w H2 h2 => ?_)
  simp -implicitDefEqProofs -dsimp (disch := omega) only [go_sem, Nat.reduceEqDiff, ↓reduceIte, Nat.reduceAdd, Nat.reduceMul, Nat.reduceSub, Nat.reduceLT, Nat.reduceLeDiff, Int.reduceLT, Int.reduceLE, Int.reduceEq, Int.reduceNeg, Int.reduceAdd, Int.reduceMul, Int.reduceSub, Int.reduceToNat, reduceCtorEq, ]
  refine newWriterA hp.bits (m := 67108864) h2 (by omega) (fun h => by omega) (fun _ _ r H3 h3 => ?_)
  rw [show Int.toNat 67108864 = 67108864 by decide] at h3
  simp -implicitDefEqProofs -dsimp (disch := omega) only [go_sem, Nat.reduceEqDiff, ↓reduceIte, Nat.reduceAdd, Nat.reduceMul, Nat.reduceSub, Nat.reduceLT, Nat.reduceLeDiff, Int.reduceLT, Int.reduceLE, Int.reduceEq, Int.reduceNeg, Int.reduceAdd, Int.reduceMul, Int.reduceSub, Int.reduceToNat, reduceCtorEq, dec_t, dec_f, ]
  refine loop_inv (BpI H p most _ ops w r) ?_ ops.length _ _ ⟨0, [], by omega, by omega, by omega, rfl, rfl, h3.p1⟩
  rintro k fr H4 ⟨i, l, hk, hi, hi3, rfl, hll, h4⟩
  generalize hK : rnd (BpI H p most _ ops w r) k = K
  have hc := h4.p2.cel
  have htl := tot_le ops i
  by_cases hlt : i < ops.length ∧ i < 300
  · obtain ⟨hi1, hi2⟩ := hlt
    obtain ⟨b, o, c2, e2⟩ := hx.at0 (by omega)
    cases e2
    have hr := opRead (hx.same h4.p3.base (fun _ _ h => h)) hi1
    have hok := ho _ (List.getElem_mem hi1)
    have hts := tot_succ hi1
    have hw65 := wdOf_le ops[i]
    unfold wdOf at hts hw65
    generalize ops[i] = q at hr hok hts hw65
    simp -implicitDefEqProofs -dsimp (disch := omega) only [go_sem, Nat.reduceEqDiff, ↓reduceIte, Nat.reduceAdd, Nat.reduceMul, Nat.reduceSub, Nat.reduceLT, Nat.reduceLeDiff, Int.reduceLT, Int.reduceLE, Int.reduceEq, Int.reduceNeg, Int.reduceAdd, Int.reduceMul, Int.reduceSub, Int.reduceToNat, reduceCtorEq, dec_t, dec_f, burinlaw1_BitsParts_l1, rd_s hc, Int.toNat_natCast, hr.r2]
    refine within_ct hp.kit.h_burinkit_Within (n := 65) hok.2.2 (by omega) (by omega) ?_
    generalize (q.2.2 % ((65 : Nat) : Int)).toNat = wd at hts hw65
    simp -implicitDefEqProofs -dsimp (disch := omega) only [go_sem, Nat.reduceEqDiff, ↓reduceIte, Nat.reduceAdd, Nat.reduceMul, Nat.reduceSub, Nat.reduceLT, Nat.reduceLeDiff, Int.reduceLT, Int.reduceLE, Int.reduceEq, Int.reduceNeg, Int.reduceAdd, Int.reduceMul, Int.reduceSub, Int.reduceToNat, reduceCtorEq, dec_t, dec_f, rd_s hc, Int.toNat_natCast, hr.r1]
    refine lif_join (fun fr' H' => H4 = H' ∧ ∃ n' ex, n' < 18446744073709551616 ∧ (wd < 64 → n' < 2 ^ wd) ∧ fr' = ⟨(1, .ptr (some (p, 0))) :: (3, .ptr (some (w, 0))) :: (5, .ptr (some (r, 0))) :: (7, .int .i64 i) :: (8, .int .i64 wd) :: (9, .int .u64 (n' : Nat)) :: ex, []⟩) ?_ ?_
    · refine lif_dec (fun h => ?_) (fun h => ?_)
      · have hwd : wd < 64 := by omega
        have hpos := Nat.two_pow_pos wd
        simp -implicitDefEqProofs -dsimp (disch := omega) only [go_sem, Nat.reduceEqDiff, ↓reduceIte, Nat.reduceAdd, Nat.reduceMul, Nat.reduceSub, Nat.reduceLT, Nat.reduceLeDiff, Int.reduceLT, Int.reduceLE, Int.reduceEq, Int.reduceNeg, Int.reduceAdd, Int.reduceMul, Int.reduceSub, Int.reduceToNat, reduceCtorEq, wu64, shl1 hwd, pow_pos2, tmodN, cmodN]
        exact ⟨rfl, q.2.1 % 2 ^ wd, [], Nat.lt_of_le_of_lt (Nat.mod_le _ _) hok.2.1, fun _ => Nat.mod_lt _ hpos, rfl⟩
      · simp -implicitDefEqProofs -dsimp (disch := omega) only [go_sem, Nat.reduceEqDiff, ↓reduceIte, Nat.reduceAdd, Nat.reduceMul, Nat.reduceSub, Nat.reduceLT, Nat.reduceLeDiff, Int.reduceLT, Int.reduceLE, Int.reduceEq, Int.reduceNeg, Int.reduceAdd, Int.reduceMul, Int.reduceSub, Int.reduceToNat, reduceCtorEq, ]
        exact ⟨rfl, q.2.1, _, hok.2.1, fun h => by omega, rfl⟩
    · rintro fr' H' ⟨rfl, n, ex, hn, hn2, rfl⟩
      have hz : ¬ ((wd : Int) + 1 = 0) := by omega
      have elow : (i : Int) % ((wd : Int) + 1) = ((i % (wd + 1) : Nat) : Int) := by rw [show (wd : Int) + 1 = ((wd + 1 : Nat) : Int) by omega]; rfl
      have hlow : i % (wd + 1) ≤ wd := by have := Nat.mod_lt i (show 0 < wd + 1 by omega); omega
      simp -implicitDefEqProofs -dsimp (disch := omega) only [go_sem, Nat.reduceEqDiff, ↓reduceIte, Nat.reduceAdd, Nat.reduceMul, Nat.reduceSub, Nat.reduceLT, Nat.reduceLeDiff, Int.reduceLT, Int.reduceLE, Int.reduceEq, Int.reduceNeg, Int.reduceAdd, Int.reduceMul, Int.reduceSub, Int.reduceToNat, reduceCtorEq, dec_t, dec_f, w64, hz, tmodN, elow]
      generalize i % (wd + 1) = low at hlow
      refine lif_join (fun fr' H' => H4 = H' ∧ ∃ ex, fr' = ⟨(1, .ptr (some (p, 0))) :: (3, .ptr (some (w, 0))) :: (5, .ptr (some (r, 0))) :: (7, .int .i64 i) :: (8, .int .i64 wd) :: (9, .int .u64 (n : Nat)) :: (10, .int .i64 low) :: (11, .int .u64 ((n % 2 ^ low : Nat) : Int)) :: ex, []⟩) ?_ ?_
      · refine lif_dec (fun h => ?_) (fun h => ?_)
        · have hwd : low < 64 := by omega
          simp -implicitDefEqProofs -dsimp (disch := omega) only [go_sem, Nat.reduceEqDiff, ↓reduceIte, Nat.reduceAdd, Nat.reduceMul, Nat.reduceSub, Nat.reduceLT, Nat.reduceLeDiff, Int.reduceLT, Int.reduceLE, Int.reduceEq, Int.reduceNeg, Int.reduceAdd, Int.reduceMul, Int.reduceSub, Int.reduceToNat, reduceCtorEq, wu64, shl1 hwd, pow_pos2, tmodN, cmodN]
          exact ⟨rfl, [], rfl⟩
        · simp -implicitDefEqProofs -dsimp (disch := omega) only [go_sem, Nat.reduceEqDiff, ↓reduceIte, Nat.reduceAdd, Nat.reduceMul, Nat.reduceSub, Nat.reduceLT, Nat.reduceLeDiff, Int.reduceLT, Int.reduceLE, Int.reduceEq, Int.reduceNeg, Int.reduceAdd, Int.reduceMul, Int.reduceSub, Int.reduceToNat, reduceCtorEq, ]
          have e64 : low = 64 := by omega
          subst e64
          exact ⟨rfl, _, by rw [Nat.mod_eq_of_lt (by omega)]⟩
      · rintro fr' H' ⟨rfl, ex2, rfl⟩
        simp -implicitDefEqProofs -dsimp (disch := omega) only [go_sem, Nat.reduceEqDiff, ↓reduceIte, Nat.reduceAdd, Nat.reduceMul, Nat.reduceSub, Nat.reduceLT, Nat.reduceLeDiff, Int.reduceLT, Int.reduceLE, Int.reduceEq, Int.reduceNeg, Int.reduceAdd, Int.reduceMul, Int.reduceSub, Int.reduceToNat, reduceCtorEq, dec_t, dec_f, ]
        refine wPutA hp.bits h4 hn (by omega) (fun H5 h5 => ?_)
        rw [wPut_ok (most := 67108864) hw65 hn2 (by omega)] at h5 ⊢
        have hcut := bitsOf_cut n (wd - low) low
        rw [show wd - low + low = wd by omega] at hcut
        have hlen : (l ++ bitsOf n wd).length = l.length + wd := by rw [List.length_append, bitsOf_length]
        have hml : n % 2 ^ low < 2 ^ low := Nat.mod_lt _ (Nat.two_pow_pos _)
        have hml2 : n % 2 ^ low < 18446744073709551616 := Nat.lt_of_le_of_lt (Nat.mod_le _ _) hn
        by_cases h64 : low < 64
        · have hdl : n / 2 ^ low < 18446744073709551616 := Nat.lt_of_le_of_lt (Nat.div_le_self _ _) hn
          have hsub : ((wd : Int) - low) = ((wd - low : Nat) : Int) := by omega
          have hdk : wd - low < 64 → n / 2 ^ low < 2 ^ (wd - low) := fun h => by
            rw [Nat.div_lt_iff_lt_mul (Nat.two_pow_pos _), ← Nat.pow_add, show wd - low + low = wd by omega]
            by_cases hw : wd < 64
            · exact hn2 hw
            · have : wd = 64 := by omega
              subst this; exact hn
          simp -implicitDefEqProofs -dsimp (disch := omega) only [go_sem, Nat.reduceEqDiff, ↓reduceIte, Nat.reduceAdd, Nat.reduceMul, Nat.reduceSub, Nat.reduceLT, Nat.reduceLeDiff, Int.reduceLT, Int.reduceLE, Int.reduceEq, Int.reduceNeg, Int.reduceAdd, Int.reduceMul, Int.reduceSub, Int.reduceToNat, reduceCtorEq, dec_t, dec_f, wu64, shr64 hn, w64, hsub]
          refine wPutA hp.bits (n := n / 2 ^ low) h5.p1 hdl (by omega) (fun H6 h6 => ?_)
          rw [wPut_ok (most := 67108864) (by omega) hdk (by omega)] at h6 ⊢
          have hlen2 : (l ++ bitsOf (n / 2 ^ low) (wd - low)).length = l.length + (wd - low) := by rw [List.length_append, bitsOf_length]
          simp -implicitDefEqProofs -dsimp (disch := omega) only [go_sem, Nat.reduceEqDiff, ↓reduceIte, Nat.reduceAdd, Nat.reduceMul, Nat.reduceSub, Nat.reduceLT, Nat.reduceLeDiff, Int.reduceLT, Int.reduceLE, Int.reduceEq, Int.reduceNeg, Int.reduceAdd, Int.reduceMul, Int.reduceSub, Int.reduceToNat, reduceCtorEq, dec_t, dec_f, ]
          refine wPutA hp.bits (n := n % 2 ^ low) h6 hml2 (by omega) (fun H7 h7 => ?_)
          dsimp only at h7 ⊢
          rw [wPut_ok (most := 67108864) (by omega) (fun _ => hml) (by omega)] at h7 ⊢
          dsimp only at h7
          rw [List.append_assoc, ← hcut] at h7
          simp -implicitDefEqProofs -dsimp (disch := omega) only [go_sem, Nat.reduceEqDiff, ↓reduceIte, Nat.reduceAdd, Nat.reduceMul, Nat.reduceSub, Nat.reduceLT, Nat.reduceLeDiff, Int.reduceLT, Int.reduceLE, Int.reduceEq, Int.reduceNeg, Int.reduceAdd, Int.reduceMul, Int.reduceSub, Int.reduceToNat, reduceCtorEq, dec_t, dec_f, w64, cadd1]
          subst hK
          exact rnd_n (ops.length - (i + 1)) (by omega) ⟨i + 1, l ++ bitsOf n wd, rfl, by omega, by omega, rfl, by omega, h7.p1⟩
        · have e64 : low = 64 := by omega
          have ew : wd = 64 := by omega
          subst e64 ew
          simp -implicitDefEqProofs -dsimp (disch := omega) only [go_sem, Nat.reduceEqDiff, ↓reduceIte, Nat.reduceAdd, Nat.reduceMul, Nat.reduceSub, Nat.reduceLT, Nat.reduceLeDiff, Int.reduceLT, Int.reduceLE, Int.reduceEq, Int.reduceNeg, Int.reduceAdd, Int.reduceMul, Int.reduceSub, Int.reduceToNat, reduceCtorEq, dec_t, dec_f, ]
          refine wPutA hp.bits (n := n % 2 ^ 64) h5.p1 hml2 (by omega) (fun H7 h7 => ?_)
          rw [wPut_ok (most := 67108864) (by omega) (fun _ => hml) (by omega)] at h7 ⊢
          rw [Nat.sub_self] at hcut
          dsimp only at h7
          rw [show bitsOf (n % 2 ^ 64) 64 = bitsOf n 64 by rw [hcut]; rfl] at h7
          simp -implicitDefEqProofs -dsimp (disch := omega) only [go_sem, Nat.reduceEqDiff, ↓reduceIte, Nat.reduceAdd, Nat.reduceMul, Nat.reduceSub, Nat.reduceLT, Nat.reduceLeDiff, Int.reduceLT, Int.reduceLE, Int.reduceEq, Int.reduceNeg, Int.reduceAdd, Int.reduceMul, Int.reduceSub, Int.reduceToNat, reduceCtorEq, dec_t, dec_f, w64, cadd1]
          subst hK
          exact rnd_n (ops.length - (i + 1)) (by omega) ⟨i + 1, l ++ bitsOf n 64, rfl, by omega, by omega, rfl, by omega, h7.p1⟩
  · have htot : ∀ j, j ≤ ops.length → j ≤ 300 → tot ops j ≤ l.length := fun j h1 h2 => by rw [hll]; exact tot_mono (by omega)
    have hpl := pack_length l
    rcases (show i = ops.length ∨ (i < ops.length ∧ i = 300) by omega) with h | h <;>
    · simp -implicitDefEqProofs -dsimp (disch := omega) only [go_sem, Nat.reduceEqDiff, ↓reduceIte, Nat.reduceAdd, Nat.reduceMul, Nat.reduceSub, Nat.reduceLT, Nat.reduceLeDiff, Int.reduceLT, Int.reduceLE, Int.reduceEq, Int.reduceNeg, Int.reduceAdd, Int.reduceMul, Int.reduceSub, Int.reduceToNat, reduceCtorEq, dec_t, dec_f, burinlaw1_BitsParts_l1, rd_s hc]
      subst hK
      simp -implicitDefEqProofs -dsimp (disch := omega) only [go_sem, Nat.reduceEqDiff, ↓reduceIte, Nat.reduceAdd, Nat.reduceMul, Nat.reduceSub, Nat.reduceLT, Nat.reduceLeDiff, Int.reduceLT, Int.reduceLE, Int.reduceEq, Int.reduceNeg, Int.reduceAdd, Int.reduceMul, Int.reduceSub, Int.reduceToNat, reduceCtorEq, dec_t, dec_f, ]
      refine wBytesA hp.bits h4 (fun y1 H5 h5 => ?_)
      simp -implicitDefEqProofs -dsimp (disch := omega) only [go_sem, Nat.reduceEqDiff, ↓reduceIte, Nat.reduceAdd, Nat.reduceMul, Nat.reduceSub, Nat.reduceLT, Nat.reduceLeDiff, Int.reduceLT, Int.reduceLE, Int.reduceEq, Int.reduceNeg, Int.reduceAdd, Int.reduceMul, Int.reduceSub, Int.reduceToNat, reduceCtorEq, dec_t, dec_f, ]
      refine wBytesA hp.bits h5.p2 (fun y2 H6 h6 => ?_)
      simp -implicitDefEqProofs -dsimp (disch := omega) only [go_sem, Nat.reduceEqDiff, ↓reduceIte, Nat.reduceAdd, Nat.reduceMul, Nat.reduceSub, Nat.reduceLT, Nat.reduceLeDiff, Int.reduceLT, Int.reduceLE, Int.reduceEq, Int.reduceNeg, Int.reduceAdd, Int.reduceMul, Int.reduceSub, Int.reduceToNat, reduceCtorEq, dec_t, dec_f, ]
      refine eqA hp.kit h6.p2.own.arr h6.own.arr (by omega) ?_
      rw [show decide (pack l = pack l) = true by simp]
      simp -implicitDefEqProofs -dsimp (disch := omega) only [go_sem, Nat.reduceEqDiff, ↓reduceIte, Nat.reduceAdd, Nat.reduceMul, Nat.reduceSub, Nat.reduceLT, Nat.reduceLeDiff, Int.reduceLT, Int.reduceLE, Int.reduceEq, Int.reduceNeg, Int.reduceAdd, Int.reduceMul, Int.reduceSub, Int.reduceToNat, reduceCtorEq, dec_t, dec_f, ]
      refine wLenA hp.bits h6.p3 ?_
      simp -implicitDefEqProofs -dsimp (disch := omega) only [go_sem, Nat.reduceEqDiff, ↓reduceIte, Nat.reduceAdd, Nat.reduceMul, Nat.reduceSub, Nat.reduceLT, Nat.reduceLeDiff, Int.reduceLT, Int.reduceLE, Int.reduceEq, Int.reduceNeg, Int.reduceAdd, Int.reduceMul, Int.reduceSub, Int.reduceToNat, reduceCtorEq, dec_t, dec_f, ]
      refine wLenA hp.bits h6.p1 ?_
      simp -implicitDefEqProofs -dsimp (disch := omega) only [go_sem, Nat.reduceEqDiff, ↓reduceIte, Nat.reduceAdd, Nat.reduceMul, Nat.reduceSub, Nat.reduceLT, Nat.reduceLeDiff, Int.reduceLT, Int.reduceLE, Int.reduceEq, Int.reduceNeg, Int.reduceAdd, Int.reduceMul, Int.reduceSub, Int.reduceToNat, reduceCtorEq, dec_t, dec_f, ]
      refine wBytesA hp.bits h6.p3 (fun y3 H7 h7 => ?_)
      simp -implicitDefEqProofs -dsimp (disch := omega) only [go_sem, Nat.reduceEqDiff, ↓reduceIte, Nat.reduceAdd, Nat.reduceMul, Nat.reduceSub, Nat.reduceLT, Nat.reduceLeDiff, Int.reduceLT, Int.reduceLE, Int.reduceEq, Int.reduceNeg, Int.reduceAdd, Int.reduceMul, Int.reduceSub, Int.reduceToNat, reduceCtorEq, dec_t, dec_f, ]
      refine newReaderA hp.bits h7 h7.own.arr (pack_lt l) (by omega) (fun r1 H8 h8 => ?_)
      simp -implicitDefEqProofs -dsimp (disch := omega) only [go_sem, Nat.reduceEqDiff, ↓reduceIte, Nat.reduceAdd, Nat.reduceMul, Nat.reduceSub, Nat.reduceLT, Nat.reduceLeDiff, Int.reduceLT, Int.reduceLE, Int.reduceEq, Int.reduceNeg, Int.reduceAdd, Int.reduceMul, Int.reduceSub, Int.reduceToNat, reduceCtorEq, dec_t, dec_f, ]
      refine wBytesA hp.bits h8.p2 (fun y4 H9 h9 => ?_)
      simp -implicitDefEqProofs -dsimp (disch := omega) only [go_sem, Nat.reduceEqDiff, ↓reduceIte, Nat.reduceAdd, Nat.reduceMul, Nat.reduceSub, Nat.reduceLT, Nat.reduceLeDiff, Int.reduceLT, Int.reduceLE, Int.reduceEq, Int.reduceNeg, Int.reduceAdd, Int.reduceMul, Int.reduceSub, Int.reduceToNat, reduceCtorEq, dec_t, dec_f, ]
      refine newReaderA hp.bits h9 h9.own.arr (pack_lt l) (by omega) (fun r2 H10 h10 => ?_)
      simp -implicitDefEqProofs -dsimp (disch := omega) only [go_sem, Nat.reduceEqDiff, ↓reduceIte, Nat.reduceAdd, Nat.reduceMul, Nat.reduceSub, Nat.reduceLT, Nat.reduceLeDiff, Int.reduceLT, Int.reduceLE, Int.reduceEq, Int.reduceNeg, Int.reduceAdd, Int.reduceMul, Int.reduceSub, Int.reduceToNat, reduceCtorEq, dec_t, dec_f, ]
      have htn := htot i (by omega) (by omega)
      have hst : Hs H10 [RdA r1 (pack l) (tot ops 0), RdA r2 (pack l) (tot ops 0), Cel p [.int .i64 most, .sl a ops.length c e'], Bas H] := h10.sel [3, 0, 8, 9] (by decide)
      refine loop_inv (BpJ H p most _ ops (pack l) r1 r2 []) ?_ ops.length _ _ ⟨0, by omega, by omega, by omega, rfl, hst⟩
      clear hst h10 h9 h8 h7 h6 h5
      rintro k2 fr2 H11 ⟨i2, hk2, hi2, hi32, rfl, h11⟩
      generalize hK2 : rnd (BpJ H p most _ ops (pack l) r1 r2 []) k2 = K2
      have hc11 := h11.p2.cel
      by_cases hlt2 : i2 < ops.length ∧ i2 < 300
      · obtain ⟨hi1, hi4⟩ := hlt2
        obtain ⟨b, o, c2, e2⟩ := hx.at0 (by omega)
        cases e2
        have hr := opRead (hx.same h11.p3.base (fun _ _ h => h)) hi1
        have hok := ho _ (List.getElem_mem hi1)
        have hts := tot_succ hi1
        have hw65 := wdOf_le ops[i2]
        have hfit := htot (i2 + 1) (by omega) (by omega)
        unfold wdOf at hts hw65
        generalize ops[i2] = q at hr hok hts hw65
        simp -implicitDefEqProofs -dsimp (disch := omega) only [go_sem, Nat.reduceEqDiff, ↓reduceIte, Nat.reduceAdd, Nat.reduceMul, Nat.reduceSub, Nat.reduceLT, Nat.reduceLeDiff, Int.reduceLT, Int.reduceLE, Int.reduceEq, Int.reduceNeg, Int.reduceAdd, Int.reduceMul, Int.reduceSub, Int.reduceToNat, reduceCtorEq, dec_t, dec_f, burinlaw1_BitsParts_l0, rd_s hc11, Int.toNat_natCast, hr.r2]
        refine within_ct hp.kit.h_burinkit_Within (n := 65) hok.2.2 (by omega) (by omega) ?_
        generalize (q.2.2 % ((65 : Nat) : Int)).toNat = wd at hts hw65
        have hz : ¬ ((wd : Int) + 1 = 0) := by omega
        have elow : (i2 : Int) % ((wd : Int) + 1) = ((i2 % (wd + 1) : Nat) : Int) := by rw [show (wd : Int) + 1 = ((wd + 1 : Nat) : Int) by omega]; rfl
        have hlow : i2 % (wd + 1) ≤ wd := by have := Nat.mod_lt i2 (show 0 < wd + 1 by omega); omega
        simp -implicitDefEqProofs -dsimp (disch := omega) only [go_sem, Nat.reduceEqDiff, ↓reduceIte, Nat.reduceAdd, Nat.reduceMul, Nat.reduceSub, Nat.reduceLT, Nat.reduceLeDiff, Int.reduceLT, Int.reduceLE, Int.reduceEq, Int.reduceNeg, Int.reduceAdd, Int.reduceMul, Int.reduceSub, Int.reduceToNat, reduceCtorEq, dec_t, dec_f, w64, hz, tmodN, elow]
        generalize i2 % (wd + 1) = low at hlow
        have hsub : ((wd : Int) - low) = ((wd - low : Nat) : Int) := by omega
        refine rTakeA hp.bits h11 (fun H12 h12 => ?_)
        rw [rTake_ok hw65 (by omega)] at h12 ⊢
        simp -implicitDefEqProofs -dsimp (disch := omega) only [go_sem, Nat.reduceEqDiff, ↓reduceIte, Nat.reduceAdd, Nat.reduceMul, Nat.reduceSub, Nat.reduceLT, Nat.reduceLeDiff, Int.reduceLT, Int.reduceLE, Int.reduceEq, Int.reduceNeg, Int.reduceAdd, Int.reduceMul, Int.reduceSub, Int.reduceToNat, reduceCtorEq, dec_t, dec_f, w64, hsub]
        refine rTakeA hp.bits h12.p1 (fun H13 h13 => ?_)
        rw [rTake_ok (k := wd - low) (by omega) (by omega)] at h13 ⊢
        simp -implicitDefEqProofs -dsimp (disch := omega) only [go_sem, Nat.reduceEqDiff, ↓reduceIte, Nat.reduceAdd, Nat.reduceMul, Nat.reduceSub, Nat.reduceLT, Nat.reduceLeDiff, Int.reduceLT, Int.reduceLE, Int.reduceEq, Int.reduceNeg, Int.reduceAdd, Int.reduceMul, Int.reduceSub, Int.reduceToNat, reduceCtorEq, dec_t, dec_f, ]
        refine rTakeA hp.bits h13 (fun H14 h14 => ?_)
        dsimp only at h14 ⊢
        rw [rTake_ok (k := low) (by omega) (by omega)] at h14 ⊢
        dsimp only at h14
        have hcut := toldN_cut (pack l) (tot ops i2) (wd - low) low
        rw [show wd - low + low = wd by omega] at hcut
        have hx1 := toldN_lt (pack l) (tot ops i2) wd
        have hpw : 2 ^ wd ≤ 2 ^ 64 := Nat.pow_le_pow_right (by omega) hw65
        rw [show tot ops i2 + (wd - low) + low = tot ops (i2 + 1) by omega, show tot ops i2 + wd = tot ops (i2 + 1) by omega] at h14
        by_cases h64 : low < 64
        · have hne : IntKind.wrap .u64 (IntKind.wrap .u64 ((toldN (pack l) (tot ops i2) (wd - low) * 2 ^ low : Nat) : Int) + ((toldN (pack l) (tot ops i2 + (wd - low)) low : Nat) : Int)) = ((toldN (pack l) (tot ops i2) wd : Nat) : Int) := by
            rw [hcut]
            generalize toldN (pack l) (tot ops i2) (wd - low) * 2 ^ low = u at hcut
            generalize toldN (pack l) (tot ops i2 + (wd - low)) low = u2 at hcut
            rw [wu64 (n := (u : Int)) (by omega), wu64 (by omega)]; rfl
          simp -implicitDefEqProofs -dsimp (disch := omega) only [go_sem, Nat.reduceEqDiff, ↓reduceIte, Nat.reduceAdd, Nat.reduceMul, Nat.reduceSub, Nat.reduceLT, Nat.reduceLeDiff, Int.reduceLT, Int.reduceLE, Int.reduceEq, Int.reduceNeg, Int.reduceAdd, Int.reduceMul, Int.reduceSub, Int.reduceToNat, reduceCtorEq, dec_t, dec_f, wu64, shl64, hne, w64, cadd1]
          subst hK2
          exact rnd_n (ops.length - (i2 + 1)) (by omega) ⟨i2 + 1, rfl, by omega, by omega, rfl, h14.p1⟩
        · have e64 : low = 64 := by omega
          have ew : wd = 64 := by omega
          subst e64 ew
          rw [Nat.sub_self] at hcut
          rw [Nat.sub_self, Nat.add_zero]
          rw [show toldN (pack l) (tot ops i2) 0 = 0 from rfl, Nat.zero_mul, Nat.zero_add, Nat.add_zero] at hcut
          simp -implicitDefEqProofs -dsimp (disch := omega) only [go_sem, Nat.reduceEqDiff, ↓reduceIte, Nat.reduceAdd, Nat.reduceMul, Nat.reduceSub, Nat.reduceLT, Nat.reduceLeDiff, Int.reduceLT, Int.reduceLE, Int.reduceEq, Int.reduceNeg, Int.reduceAdd, Int.reduceMul, Int.reduceSub, Int.reduceToNat, reduceCtorEq, dec_t, dec_f, w64, cadd1]
          subst hK2
          exact rnd_n (ops.length - (i2 + 1)) (by omega) ⟨i2 + 1, rfl, by omega, by omega, rfl, h14.p1⟩
      · rcases (show i2 = ops.length ∨ (i2 < ops.length ∧ i2 = 300) by omega) with h | h <;>
        · first
          | (exfalso; omega)
          | (simp -implicitDefEqProofs -dsimp (disch := omega) only [go_sem, Nat.reduceEqDiff, ↓reduceIte, Nat.reduceAdd, Nat.reduceMul, Nat.reduceSub, Nat.reduceLT, Nat.reduceLeDiff, Int.reduceLT, Int.reduceLE, Int.reduceEq, Int.reduceNeg, Int.reduceAdd, Int.reduceMul, Int.reduceSub, Int.reduceToNat, reduceCtorEq, dec_t, dec_f, burinlaw1_BitsParts_l0, rd_s hc11]
             subst hK2
             simp -implicitDefEqProofs -dsimp (disch := omega) only [go_sem, Nat.reduceEqDiff, ↓reduceIte, Nat.reduceAdd, Nat.reduceMul, Nat.reduceSub, Nat.reduceLT, Nat.reduceLeDiff, Int.reduceLT, Int.reduceLE, Int.reduceEq, Int.reduceNeg, Int.reduceAdd, Int.reduceMul, Int.reduceSub, Int.reduceToNat, reduceCtorEq, dec_t, dec_f, ]
             refine rLeftA hp.bits h11 ?_
             simp -implicitDefEqProofs -dsimp (disch := omega) only [go_sem, Nat.reduceEqDiff, ↓reduceIte, Nat.reduceAdd, Nat.reduceMul, Nat.reduceSub, Nat.reduceLT, Nat.reduceLeDiff, Int.reduceLT, Int.reduceLE, Int.reduceEq, Int.reduceNeg, Int.reduceAdd, Int.reduceMul, Int.reduceSub, Int.reduceToNat, reduceCtorEq, dec_t, dec_f, ]
             refine rLeftA hp.bits h11.p1 ?_
             simp -implicitDefEqProofs -dsimp (disch := omega) only [go_sem, Nat.reduceEqDiff, ↓reduceIte, Nat.reduceAdd, Nat.reduceMul, Nat.reduceSub, Nat.reduceLT, Nat.reduceLeDiff, Int.reduceLT, Int.reduceLE, Int.reduceEq, Int.reduceNeg, Int.reduceAdd, Int.reduceMul, Int.reduceSub, Int.reduceToNat, reduceCtorEq, dec_t, dec_f, ]
             refine wakes hp (fun H10 _ => ?_)
             simp -implicitDefEqProofs -dsimp (disch := omega) only [go_sem, Nat.reduceEqDiff, ↓reduceIte, Nat.reduceAdd, Nat.reduceMul, Nat.reduceSub, Nat.reduceLT, Nat.reduceLeDiff, Int.reduceLT, Int.reduceLE, Int.reduceEq, Int.reduceNeg, Int.reduceAdd, Int.reduceMul, Int.reduceSub, Int.reduceToNat, reduceCtorEq, dec_t, dec_f, ])
theorem law_BitsParts {P : Prog} (hp : HasL1 P) (H : Heap) (cs : List V) (x : TD.Ty scriptTD) (h : Is H scriptTD cs x) : Call P 36 [argV scriptTD cs] H fun o _ => o = .ret (.bool true) := by
  obtain ⟨most, v, ops, rfl, h1, h2, h3, h4⟩ := is_script h
  exact bitsParts hp h1 h2 h3 h4
end Go.Ab
