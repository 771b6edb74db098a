/- The reference's writer, on: Align, Bytes. Conditions: none. -/
import Derived.Test.YtnpdnkmnnmmagaaBh
set_option linter.all false
namespace Go.Ab

def RAlI (H : Heap) (w : Nat) (v : V) (l : List Bool) (most : Nat) (m : Nat) (fr : Fr) (H' : Heap) : Prop :=
  ∃ v' j, m = (8 - l.length % 8) % 8 - j ∧ j ≤ (8 - l.length % 8) % 8 ∧ fr = ⟨[(0, .ptr (some (w, 0)))], []⟩ ∧ RW H' w v' (l ++ List.replicate j false) most ∧ Same (wf w v) H H' ∧ ∀ b, sb v' b → sb v b ∨ H.next ≤ b
theorem rwAlign_ct {P : Prog} (hp : HasRefBits P) {H : Heap} {w : Nat} {v : V} {l : List Bool} {most : Nat} (h : RW H w v l most) {Q : Out → Heap → Prop}
    (hQ : ∀ v' H', RW H' w v' (wAlign l) most → Same (wf w v) H H' → (∀ b, sb v' b → sb v b ∨ H.next ≤ b) → Q (.ret (.tup [])) H') : Call P 20 [.ptr (some (w, 0))] H Q := by
  have := h.room; have := h.max
  refine call_of hp.h_burinref1_Writer_Align rfl ?_
  simp -implicitDefEqProofs -dsimp (disch := omega) only [go_sem, Nat.reduceEqDiff, ↓reduceIte, Nat.reduceAdd, Nat.reduceMul, Nat.reduceSub, Nat.reduceLT, Nat.reduceLeDiff, Int.reduceLT, Int.reduceLE, Int.reduceEq, Int.reduceNeg, Int.reduceAdd, Int.reduceMul, Int.reduceSub, Int.reduceToNat, reduceCtorEq, ]
  refine loop_inv (RAlI H w v l most) ?_ _ _ _ ⟨v, 0, rfl, by omega, rfl, by simpa using h, Same.refl _ _, fun b hb => Or.inl hb⟩
  rintro m fr H1 ⟨v1, j, hm, hj, rfl, hw, hs, hf⟩
  generalize hK : rnd (RAlI H w v l most) m = K
  have hlen : (l ++ List.replicate j false).length = l.length + j := by simp
  obtain ⟨x, c, e', rfl⟩ := hw.list.arr.shape
  simp -implicitDefEqProofs -dsimp (disch := omega) only [go_sem, Nat.reduceEqDiff, ↓reduceIte, Nat.reduceAdd, Nat.reduceMul, Nat.reduceSub, Nat.reduceLT, Nat.reduceLeDiff, Int.reduceLT, Int.reduceLE, Int.reduceEq, Int.reduceNeg, Int.reduceAdd, Int.reduceMul, Int.reduceSub, Int.reduceToNat, reduceCtorEq, burinref1_Writer_Align_l0, rd_s hw.cell, tmodN]
  refine lif_dec (fun h1 => ?_) (fun h1 => ?_)
  · obtain ⟨v2, H2, ha, hb2, hs2, hf2⟩ := app_one (eb := 8) (m := 1) (M := [.int .i64 0]) hw.list rfl rfl (by omega) (by omega)
    obtain ⟨x2, c2, e2, rfl⟩ := hb2.arr.shape
    obtain ⟨hc2, hrw, hss⟩ := hw.push (c := false) (by omega) hb2 hs2 hf2
    simp -implicitDefEqProofs -dsimp (disch := omega) only [go_sem, Nat.reduceEqDiff, ↓reduceIte, Nat.reduceAdd, Nat.reduceMul, Nat.reduceSub, Nat.reduceLT, Nat.reduceLeDiff, Int.reduceLT, Int.reduceLE, Int.reduceEq, Int.reduceNeg, Int.reduceAdd, Int.reduceMul, Int.reduceSub, Int.reduceToNat, reduceCtorEq, rd_s hw.cell, ha, wr_s hc2]
    subst hK
    refine rnd_n ((8 - l.length % 8) % 8 - (j + 1)) (by omega) ⟨_, j + 1, rfl, by omega, rfl, ?_, hs.trans hss fun b hbl hb => hb.elim Or.inl fun hx => (hf b hx).elim Or.inr fun hy => by omega, fun b hb => (hf2 b hb).elim (hf b) fun hx => Or.inr (Nat.le_trans hs.le hx)⟩
    rw [List.replicate_succ', ← List.append_assoc]; exact hrw
  · obtain rfl : j = (8 - l.length % 8) % 8 := by omega
    subst hK
    simp -implicitDefEqProofs -dsimp (disch := omega) only [go_sem, Nat.reduceEqDiff, ↓reduceIte, Nat.reduceAdd, Nat.reduceMul, Nat.reduceSub, Nat.reduceLT, Nat.reduceLeDiff, Int.reduceLT, Int.reduceLE, Int.reduceEq, Int.reduceNeg, Int.reduceAdd, Int.reduceMul, Int.reduceSub, Int.reduceToNat, reduceCtorEq, ]
    exact hQ _ H1 hw hs hf

theorem reps_u8 (n : Nat) : reps [.int .u8 0] n = u8s (List.replicate n 0) := by
  induction n with
  | zero => rfl
  | succ n ih => rw [reps, ih]; simp [u8s, List.replicate_succ]

def RByI (H : Heap) (w : Nat) (l : List Bool) (most : Nat) (y : V) (m : Nat) (fr : Fr) (H' : Heap) : Prop :=
  ∃ i, m = l.length - i ∧ i ≤ l.length ∧ fr = ⟨[(0, .ptr (some (w, 0))), (3, y), (4, .int .i64 (i : Nat))], []⟩ ∧ Bytes H' y ((List.range ((l.length + 7) / 8)).map (byteAt (l.take i))) ∧ Same (fun _ => False) H H'
theorem rwBytes_ct {P : Prog} (hp : HasRefBits P) {H : Heap} {w : Nat} {v : V} {l : List Bool} {most : Nat} (h : RW H w v l most) {Q : Out → Heap → Prop}
    (hQ : ∀ v' H', Bytes H' v' (pack l) → Same (fun _ => False) H H' → (∀ b, sb v' b → H.next ≤ b) → Q (.ret v') H') : Call P 21 [.ptr (some (w, 0))] H Q := by
  have := h.room; have := h.max; have hlt := h.lt
  obtain ⟨x, c, e', hv⟩ := h.list.arr.shape
  subst hv
  refine call_of hp.h_burinref1_Writer_Bytes rfl ?_
  have e8 : ((l.length : Int) + 7) / 8 = (((l.length + 7) / 8 : Nat) : Int) := by omega
  simp -implicitDefEqProofs -dsimp (disch := omega) only [go_sem, Nat.reduceEqDiff, ↓reduceIte, Nat.reduceAdd, Nat.reduceMul, Nat.reduceSub, Nat.reduceLT, Nat.reduceLeDiff, Int.reduceLT, Int.reduceLE, Int.reduceEq, Int.reduceNeg, Int.reduceAdd, Int.reduceMul, Int.reduceSub, Int.reduceToNat, reduceCtorEq, rd_s h.cell, w64, tdivN, e8, Int.toNat_natCast, reps_u8]
  have hb0 : Bytes (H.new (.cells (u8s (List.replicate ((l.length + 7) / 8) 0)) true)) (.sl (some (H.next, 0)) ((l.length + 7) / 8) ((l.length + 7) / 8) 1) ((List.range ((l.length + 7) / 8)).map (byteAt (l.take 0))) := by
    have e : (List.range ((l.length + 7) / 8)).map (byteAt (l.take 0)) = List.replicate ((l.length + 7) / 8) 0 := by
      refine List.ext_getElem (by simp) fun i h1 h2 => ?_
      simp [byteAt_out]
    rw [e]
    refine Or.inr ⟨H.next, by simp, by simp [get_new], by simp [u8s], by simp [next_new]⟩
  refine loop_inv (RByI H w l most (.sl (some (H.next, 0)) ((l.length + 7) / 8) ((l.length + 7) / 8) 1)) ?_ l.length _ _ ⟨0, by omega, by omega, rfl, hb0, Same.new _ _ _⟩
  rintro m fr H1 ⟨i, hm, hi, rfl, hb, hs⟩
  generalize hK : rnd (RByI H w l most (.sl (some (H.next, 0)) ((l.length + 7) / 8) ((l.length + 7) / 8) 1)) m = K
  have hw := h.same hs (fun _ _ h => h)
  simp -implicitDefEqProofs -dsimp (disch := omega) only [go_sem, Nat.reduceEqDiff, ↓reduceIte, Nat.reduceAdd, Nat.reduceMul, Nat.reduceSub, Nat.reduceLT, Nat.reduceLeDiff, Int.reduceLT, Int.reduceLE, Int.reduceEq, Int.reduceNeg, Int.reduceAdd, Int.reduceMul, Int.reduceSub, Int.reduceToNat, reduceCtorEq, burinref1_Writer_Bytes_l0, rd_s hw.cell]
  refine lif_dec (fun h1 => ?_) (fun h1 => ?_)
  · have hil : i < l.length := by omega
    obtain ⟨b2, o2, c2, hv2, hbl2, hr2, _⟩ := hw.list.arr.at hil
    have hr2 := hr2 0 (by omega)
    have hg : (ints l)[i]? = some (.int .i64 ((l[i]).toNat : Nat)) := by simp [ints, hil]
    simp only [Nat.mul_one, Nat.add_zero] at hr2
    rw [hg] at hr2
    cases hv2
    have hi8 : i / 8 < ((List.range ((l.length + 7) / 8)).map (byteAt (l.take i))).length := by simp; omega
    obtain ⟨b3, hv3, hbl3, hr3, hw3⟩ := hb.rw hi8
    have hc := Bool.toNat_le l[i]
    have eb : ((List.range ((l.length + 7) / 8)).map (byteAt (l.take i)))[i / 8] = byteAt (l.take i) (i / 8) := by simp
    have hp2 : 2 ^ (7 - i % 8) ≤ 2 ^ 7 := Nat.pow_le_pow_right (by omega) (by omega)
    have hcp : (l[i]).toNat * 2 ^ (7 - i % 8) ≤ 1 * 2 ^ (7 - i % 8) := Nat.mul_le_mul_right _ hc
    have hlt2 : byteAt (l.take i) (i / 8) + (l[i]).toNat * 2 ^ (7 - i % 8) < 256 := by
      have h1 := byteAt_lt (l.take i ++ [l[i]]) (i / 8)
      rw [byteAt_snoc, List.length_take, Nat.min_eq_left (by omega), if_pos rfl] at h1
      exact h1
    obtain ⟨H4, hw4, hb4, hs4⟩ := hw3 (byteAt (l.take i) (i / 8) + (l[i]).toNat * 2 ^ (7 - i % 8))
    rw [eb] at hr3
    simp only [List.length_map, List.length_range] at hv3
    cases hv3
    have hw4' : wr H1 H.next (i / 8) [.int .u8 ((byteAt (l.take i) (i / 8) + (l[i]).toNat * 2 ^ (7 - i % 8) : Nat) : Int)] = some H4 := hw4
    simp -implicitDefEqProofs -dsimp (disch := omega) only [go_sem, Nat.reduceEqDiff, ↓reduceIte, Nat.reduceAdd, Nat.reduceMul, Nat.reduceSub, Nat.reduceLT, Nat.reduceLeDiff, Int.reduceLT, Int.reduceLE, Int.reduceEq, Int.reduceNeg, Int.reduceAdd, Int.reduceMul, Int.reduceSub, Int.reduceToNat, reduceCtorEq, rd_s hw.cell, w64, tmodN, tdivN, cdiv8, cmod8, Int.toNat_natCast, Nat.mul_one, hr3, hr2, wu8, sub7, wu64, shl8, cadd, hw4']
    subst hK
    have es : (List.range ((l.length + 7) / 8)).map (byteAt (l.take (i + 1))) = ((List.range ((l.length + 7) / 8)).map (byteAt (l.take i))).set (i / 8) (byteAt (l.take i) (i / 8) + (l[i]).toNat * 2 ^ (7 - i % 8)) := by
      rw [List.take_succ_eq_append_getElem hil]
      refine List.ext_getElem (by simp) fun k h1 h2 => ?_
      rw [List.getElem_set]
      simp only [List.getElem_map, List.getElem_range]
      rw [byteAt_snoc, List.length_take, Nat.min_eq_left (by omega)]
      by_cases hk : i / 8 = k
      · rw [if_pos hk.symm, if_pos hk, hk]
      · rw [if_neg (fun e => hk e.symm), if_neg hk]
    refine rnd_n (l.length - (i + 1)) (by omega) ⟨i + 1, rfl, by omega, rfl, by rw [es]; exact hb4, hs.trans hs4 fun b hbl hb => by have : b = H.next := hb; omega⟩
  · obtain rfl : i = l.length := by omega
    subst hK
    simp -implicitDefEqProofs -dsimp (disch := omega) only [go_sem, Nat.reduceEqDiff, ↓reduceIte, Nat.reduceAdd, Nat.reduceMul, Nat.reduceSub, Nat.reduceLT, Nat.reduceLeDiff, Int.reduceLT, Int.reduceLE, Int.reduceEq, Int.reduceNeg, Int.reduceAdd, Int.reduceMul, Int.reduceSub, Int.reduceToNat, reduceCtorEq, ]
    rw [List.take_length] at hb
    exact hQ _ H1 hb hs fun b hb => Nat.le_of_eq hb.symm
end Go.Ab
