/- What the reference's reader comes to: the same as the reader. Conditions: none. -/
import Derived.Test.YtnpdnkmnnmmagaaBi
set_option linter.all false
namespace Go.Ab

/-- The reference's reader. -/
structure RR (H : Heap) (r : Nat) (y : V) (bs : List Nat) (a : Nat) : Prop where
  cell : H.get r = .cells [y, .int .i64 a] true
  bytes : Arr H y 1 bs.length (u8s bs)
  lt : r < H.next
  apart : ¬ sb y r
  small : ∀ b ∈ bs, b < 256
  room : a ≤ 8 * bs.length
  max : bs.length ≤ 140737488355328

theorem RR.same {S : Nat → Prop} {H H' : Heap} {r : Nat} {v : V} {bs : List Nat} {a : Nat} (h : RR H r v bs a) (s : Same S H H') (hs : ∀ b, wf r v b → ¬ S b) : RR H' r v bs a :=
  ⟨(s.eq r h.lt (hs r (Or.inl rfl))).trans h.cell, Arr.same h.bytes s fun b hb => hs b (Or.inr hb), Nat.lt_of_lt_of_le h.lt s.le, h.apart, h.small, h.room, h.max⟩
theorem RR.pass {H : Heap} {r : Nat} {v : V} {bs : List Nat} {a : Nat} (h : RR H r v bs a) {c : Nat} (hc : c ≤ 8 * bs.length) : RR (H.put r (.cells [v, .int .i64 c] true)) r v bs c ∧ Same (fun b => b = r) H (H.put r (.cells [v, .int .i64 c] true)) :=
  ⟨⟨by simp [get_put], Arr.same h.bytes (Same.put (S := fun b => b = r) rfl) (fun b hb e => h.apart (e ▸ hb)), h.lt, h.apart, h.small, hc, h.max⟩, Same.put rfl⟩

theorem rrLeft {P : Prog} (hp : HasRefBits P) {H : Heap} {r : Nat} {v : V} {bs : List Nat} {a : Nat} (h : RR H r v bs a) {Q : Out → Heap → Prop} (hQ : Q (.ret (.int .i64 ((8 * bs.length - a : Nat) : Int))) H) : Call P 22 [.ptr (some (r, 0))] H Q := by
  have := h.room; have := h.max
  obtain ⟨x, c, e', hv⟩ := h.bytes.shape
  subst hv
  refine call_of hp.h_burinref1_Reader_Left rfl ?_
  simp -implicitDefEqProofs -dsimp (disch := omega) only [go_sem, Nat.reduceEqDiff, ↓reduceIte, Nat.reduceAdd, Nat.reduceMul, Nat.reduceSub, Nat.reduceLT, Nat.reduceLeDiff, Int.reduceLT, Int.reduceLE, Int.reduceEq, Int.reduceNeg, Int.reduceAdd, Int.reduceMul, Int.reduceSub, Int.reduceToNat, reduceCtorEq, rd_s h.cell, w64]
  rw [show (8 * (bs.length : Int) - a) = ((8 * bs.length - a : Nat) : Int) by omega]
  exact hQ

def RTkI (H : Heap) (r : Nat) (v : V) (bs : List Nat) (a k : Nat) (m : Nat) (fr : Fr) (H' : Heap) : Prop :=
  ∃ i, m = k - i ∧ i ≤ k ∧ fr = ⟨[(0, .ptr (some (r, 0))), (1, .int .i64 (k : Nat)), (6, .int .u64 (toldN bs a i : Nat)), (7, .int .i64 (i : Nat))], []⟩ ∧ RR H' r v bs (a + i) ∧ Same (fun b => b = r) H H'
theorem rrTake_ct {P : Prog} (hp : HasRefBits P) {H : Heap} {r : Nat} {v : V} {bs : List Nat} {a : Nat} {k : Int} (h : RR H r v bs a) {Q : Out → Heap → Prop}
    (hQ : ∀ H', RR H' r v bs (rTake bs a k).2.2 → Same (fun b => b = r) H H' → Q (.ret (.tup [.int .u64 ((rTake bs a k).1 : Nat), .int .i64 (rTake bs a k).2.1])) H') :
    Call P 23 [.ptr (some (r, 0)), .int .i64 k] H Q := by
  have := h.room; have := h.max
  refine call_of hp.h_burinref1_Reader_Take rfl ?_
  have bad (e : rTake bs a k = (0, 11, a)) : Q (.ret (.tup [.int .u64 0, .int .i64 11])) H := by simp only [e] at hQ; exact hQ H h (Same.refl _ _)
  have short (e : rTake bs a k = (0, 14, a)) : Q (.ret (.tup [.int .u64 0, .int .i64 14])) H := by simp only [e] at hQ; exact hQ H h (Same.refl _ _)
  simp -implicitDefEqProofs -dsimp (disch := omega) only [go_sem, Nat.reduceEqDiff, ↓reduceIte, Nat.reduceAdd, Nat.reduceMul, Nat.reduceSub, Nat.reduceLT, Nat.reduceLeDiff, Int.reduceLT, Int.reduceLE, Int.reduceEq, Int.reduceNeg, Int.reduceAdd, Int.reduceMul, Int.reduceSub, Int.reduceToNat, reduceCtorEq, ]
  refine lif_dec (fun h1 => ?_) (fun h1 => ?_)
  · simp -implicitDefEqProofs -dsimp (disch := omega) only [go_sem, Nat.reduceEqDiff, ↓reduceIte, Nat.reduceAdd, Nat.reduceMul, Nat.reduceSub, Nat.reduceLT, Nat.reduceLeDiff, Int.reduceLT, Int.reduceLE, Int.reduceEq, Int.reduceNeg, Int.reduceAdd, Int.reduceMul, Int.reduceSub, Int.reduceToNat, reduceCtorEq, h1]
    exact bad (by rw [rTake, if_pos (Or.inl h1)])
  simp -implicitDefEqProofs -dsimp (disch := omega) only [go_sem, Nat.reduceEqDiff, ↓reduceIte, Nat.reduceAdd, Nat.reduceMul, Nat.reduceSub, Nat.reduceLT, Nat.reduceLeDiff, Int.reduceLT, Int.reduceLE, Int.reduceEq, Int.reduceNeg, Int.reduceAdd, Int.reduceMul, Int.reduceSub, Int.reduceToNat, reduceCtorEq, h1]
  refine lif_dec (fun h2 => ?_) (fun h2 => ?_)
  · simp -implicitDefEqProofs -dsimp (disch := omega) only [go_sem, Nat.reduceEqDiff, ↓reduceIte, Nat.reduceAdd, Nat.reduceMul, Nat.reduceSub, Nat.reduceLT, Nat.reduceLeDiff, Int.reduceLT, Int.reduceLE, Int.reduceEq, Int.reduceNeg, Int.reduceAdd, Int.reduceMul, Int.reduceSub, Int.reduceToNat, reduceCtorEq, ]
    exact bad (by rw [rTake, if_pos (Or.inr h2)])
  have e1 : ¬ (k < 0 ∨ 64 < k) := by omega
  simp -implicitDefEqProofs -dsimp (disch := omega) only [go_sem, Nat.reduceEqDiff, ↓reduceIte, Nat.reduceAdd, Nat.reduceMul, Nat.reduceSub, Nat.reduceLT, Nat.reduceLeDiff, Int.reduceLT, Int.reduceLE, Int.reduceEq, Int.reduceNeg, Int.reduceAdd, Int.reduceMul, Int.reduceSub, Int.reduceToNat, reduceCtorEq, ]
  refine rrLeft hp h ?_
  simp -implicitDefEqProofs -dsimp (disch := omega) only [go_sem, Nat.reduceEqDiff, ↓reduceIte, Nat.reduceAdd, Nat.reduceMul, Nat.reduceSub, Nat.reduceLT, Nat.reduceLeDiff, Int.reduceLT, Int.reduceLE, Int.reduceEq, Int.reduceNeg, Int.reduceAdd, Int.reduceMul, Int.reduceSub, Int.reduceToNat, reduceCtorEq, ]
  refine lif_dec (fun h3 => ?_) (fun h3 => ?_)
  · simp -implicitDefEqProofs -dsimp (disch := omega) only [go_sem, Nat.reduceEqDiff, ↓reduceIte, Nat.reduceAdd, Nat.reduceMul, Nat.reduceSub, Nat.reduceLT, Nat.reduceLeDiff, Int.reduceLT, Int.reduceLE, Int.reduceEq, Int.reduceNeg, Int.reduceAdd, Int.reduceMul, Int.reduceSub, Int.reduceToNat, reduceCtorEq, ]
    exact short (by rw [rTake, if_neg e1, if_pos (by omega)])
  · obtain ⟨kn, rfl⟩ : ∃ kn : Nat, k = kn := ⟨k.toNat, by omega⟩
    have e : rTake bs a kn = (toldN bs a kn, 0, a + kn) := by rw [rTake, if_neg e1, if_neg (by omega)]; rfl
    simp only [e] at hQ
    obtain ⟨x, c, e', hv⟩ := h.bytes.shape
    simp -implicitDefEqProofs -dsimp (disch := omega) only [go_sem, Nat.reduceEqDiff, ↓reduceIte, Nat.reduceAdd, Nat.reduceMul, Nat.reduceSub, Nat.reduceLT, Nat.reduceLeDiff, Int.reduceLT, Int.reduceLE, Int.reduceEq, Int.reduceNeg, Int.reduceAdd, Int.reduceMul, Int.reduceSub, Int.reduceToNat, reduceCtorEq, ]
    refine loop_inv (RTkI H r v bs a kn) ?_ kn _ _ ⟨0, by omega, by omega, rfl, h, Same.refl _ _⟩
    rintro m fr H1 ⟨i, hm, hi, rfl, hr, hs⟩
    generalize hK : rnd (RTkI H r v bs a kn) m = K
    simp -implicitDefEqProofs -dsimp (disch := omega) only [go_sem, Nat.reduceEqDiff, ↓reduceIte, Nat.reduceAdd, Nat.reduceMul, Nat.reduceSub, Nat.reduceLT, Nat.reduceLeDiff, Int.reduceLT, Int.reduceLE, Int.reduceEq, Int.reduceNeg, Int.reduceAdd, Int.reduceMul, Int.reduceSub, Int.reduceToNat, reduceCtorEq, burinref1_Reader_Take_l0]
    refine lif_dec (fun h4 => ?_) (fun h4 => ?_)
    · have hj : (a + i) / 8 < bs.length := by omega
      obtain ⟨b, o, c, hv, hrd⟩ := arr_byte hr.bytes hj
      subst hv
      have hbl : bs[(a + i) / 8] < 256 := h.small _ (List.getElem_mem hj)
      have hc := Bool.toNat_le (bitAt bs (a + i))
      have ht : toldN bs a i < 9223372036854775808 := Nat.lt_of_lt_of_le (toldN_lt bs a i) (Nat.le_trans (Nat.pow_le_pow_right (by omega) (show i ≤ 63 by omega)) (by decide))
      obtain ⟨hr2, hs2⟩ := hr.pass (c := a + i + 1) (by omega)
      simp -implicitDefEqProofs -dsimp (disch := omega) only [go_sem, Nat.reduceEqDiff, ↓reduceIte, Nat.reduceAdd, Nat.reduceMul, Nat.reduceSub, Nat.reduceLT, Nat.reduceLeDiff, Int.reduceLT, Int.reduceLE, Int.reduceEq, Int.reduceNeg, Int.reduceAdd, Int.reduceMul, Int.reduceSub, Int.reduceToNat, reduceCtorEq, rd_s hr.cell, wr_s hr.cell, w64, tmodN, tdivN, cadd, cadd1, cdiv8, cmod8, Int.toNat_natCast, Nat.mul_one, hrd, sub7, shr8, bit8, ← bitAt_get, wu64, cmul2]
      subst hK
      exact rnd_n (kn - (i + 1)) (by omega) ⟨i + 1, rfl, by omega, rfl, hr2, hs.trans hs2 fun _ _ h => h⟩
    · obtain rfl : i = kn := by omega
      subst hK
      simp -implicitDefEqProofs -dsimp (disch := omega) only [go_sem, Nat.reduceEqDiff, ↓reduceIte, Nat.reduceAdd, Nat.reduceMul, Nat.reduceSub, Nat.reduceLT, Nat.reduceLeDiff, Int.reduceLT, Int.reduceLE, Int.reduceEq, Int.reduceNeg, Int.reduceAdd, Int.reduceMul, Int.reduceSub, Int.reduceToNat, reduceCtorEq, ]
      exact hQ H1 hr hs

def RAlgI (H : Heap) (r : Nat) (v : V) (bs : List Nat) (a : Nat) (m : Nat) (fr : Fr) (H' : Heap) : Prop :=
  ∃ i ex, m = (8 - a % 8) % 8 - i ∧ i ≤ (8 - a % 8) % 8 ∧ fr = ⟨(0, .ptr (some (r, 0))) :: (3, .int .i64 (a : Nat)) :: ex, []⟩ ∧ RR H' r v bs (a + i) ∧ Same (fun b => b = r) H H' ∧ toldN bs a i = 0
theorem toldN_zero {bs : List Nat} {a i : Nat} (k : Nat) (h : toldN bs a (i + k) = 0) : toldN bs a i = 0 := by
  induction k with
  | zero => exact h
  | succ k ih => rw [← Nat.add_assoc, toldN] at h; exact ih (by omega)
theorem rrAlign_ct {P : Prog} (hp : HasRefBits P) {H : Heap} {r : Nat} {v : V} {bs : List Nat} {a : Nat} (h : RR H r v bs a) {Q : Out → Heap → Prop}
    (hQ : ∀ H', RR H' r v bs (rAlign bs a).2 → Same (fun b => b = r) H H' → Q (.ret (.int .i64 (rAlign bs a).1)) H') : Call P 25 [.ptr (some (r, 0))] H Q := by
  have := h.room; have := h.max
  refine call_of hp.h_burinref1_Reader_Align rfl ?_
  simp -implicitDefEqProofs -dsimp (disch := omega) only [go_sem, Nat.reduceEqDiff, ↓reduceIte, Nat.reduceAdd, Nat.reduceMul, Nat.reduceSub, Nat.reduceLT, Nat.reduceLeDiff, Int.reduceLT, Int.reduceLE, Int.reduceEq, Int.reduceNeg, Int.reduceAdd, Int.reduceMul, Int.reduceSub, Int.reduceToNat, reduceCtorEq, rd_s h.cell]
  refine loop_inv (RAlgI H r v bs a) ?_ _ _ _ ⟨0, [], rfl, by omega, rfl, h, Same.refl _ _, rfl⟩
  rintro m fr H1 ⟨i, ex, hm, hi, rfl, hr, hs, ht⟩
  generalize hK : rnd (RAlgI H r v bs a) m = K
  simp -implicitDefEqProofs -dsimp (disch := omega) only [go_sem, Nat.reduceEqDiff, ↓reduceIte, Nat.reduceAdd, Nat.reduceMul, Nat.reduceSub, Nat.reduceLT, Nat.reduceLeDiff, Int.reduceLT, Int.reduceLE, Int.reduceEq, Int.reduceNeg, Int.reduceAdd, Int.reduceMul, Int.reduceSub, Int.reduceToNat, reduceCtorEq, burinref1_Reader_Align_l0, rd_s hr.cell, tmodN]
  refine lif_dec (fun h1 => ?_) (fun h1 => ?_)
  · simp -implicitDefEqProofs -dsimp (disch := omega) only [go_sem, Nat.reduceEqDiff, ↓reduceIte, Nat.reduceAdd, Nat.reduceMul, Nat.reduceSub, Nat.reduceLT, Nat.reduceLeDiff, Int.reduceLT, Int.reduceLE, Int.reduceEq, Int.reduceNeg, Int.reduceAdd, Int.reduceMul, Int.reduceSub, Int.reduceToNat, reduceCtorEq, ]
    have et : rTake bs (a + i) 1 = ((bitAt bs (a + i)).toNat, 0, a + i + 1) := by
      rw [rTake, if_neg (by omega), if_neg (by omega)]; simp [toldN]
    refine rrTake_ct hp hr (fun H2 hr2 hs2 => ?_)
    rw [et] at hr2 ⊢
    have hc := Bool.toNat_le (bitAt bs (a + i))
    simp -implicitDefEqProofs -dsimp (disch := omega) only [go_sem, Nat.reduceEqDiff, ↓reduceIte, Nat.reduceAdd, Nat.reduceMul, Nat.reduceSub, Nat.reduceLT, Nat.reduceLeDiff, Int.reduceLT, Int.reduceLE, Int.reduceEq, Int.reduceNeg, Int.reduceAdd, Int.reduceMul, Int.reduceSub, Int.reduceToNat, reduceCtorEq, ]
    have es : toldN bs a (i + 1) = (bitAt bs (a + i)).toNat := by rw [toldN, ht]; omega
    refine lif_dec (fun h2 => ?_) (fun h2 => ?_)
    · obtain ⟨hr3, hs3⟩ := hr2.pass (c := a) (by omega)
      have e : rAlign bs a = (15, a) := by
        rw [rAlign, if_pos]; intro hx
        have := toldN_zero (i := i + 1) ((8 - a % 8) % 8 - (i + 1)) (by rw [show i + 1 + ((8 - a % 8) % 8 - (i + 1)) = (8 - a % 8) % 8 by omega]; exact hx)
        omega
      simp only [e] at hQ
      obtain ⟨x, c, e', hv⟩ := hr.bytes.shape
      subst hv
      simp -implicitDefEqProofs -dsimp (disch := omega) only [go_sem, Nat.reduceEqDiff, ↓reduceIte, Nat.reduceAdd, Nat.reduceMul, Nat.reduceSub, Nat.reduceLT, Nat.reduceLeDiff, Int.reduceLT, Int.reduceLE, Int.reduceEq, Int.reduceNeg, Int.reduceAdd, Int.reduceMul, Int.reduceSub, Int.reduceToNat, reduceCtorEq, wr_s hr2.cell]
      subst hK
      simp -implicitDefEqProofs -dsimp (disch := omega) only [go_sem, Nat.reduceEqDiff, ↓reduceIte, Nat.reduceAdd, Nat.reduceMul, Nat.reduceSub, Nat.reduceLT, Nat.reduceLeDiff, Int.reduceLT, Int.reduceLE, Int.reduceEq, Int.reduceNeg, Int.reduceAdd, Int.reduceMul, Int.reduceSub, Int.reduceToNat, reduceCtorEq, ]
      exact hQ _ hr3 ((hs.trans hs2 fun _ _ h => h).trans hs3 fun _ _ h => h)
    · simp -implicitDefEqProofs -dsimp (disch := omega) only [go_sem, Nat.reduceEqDiff, ↓reduceIte, Nat.reduceAdd, Nat.reduceMul, Nat.reduceSub, Nat.reduceLT, Nat.reduceLeDiff, Int.reduceLT, Int.reduceLE, Int.reduceEq, Int.reduceNeg, Int.reduceAdd, Int.reduceMul, Int.reduceSub, Int.reduceToNat, reduceCtorEq, ]
      subst hK
      exact rnd_n ((8 - a % 8) % 8 - (i + 1)) (by omega) ⟨i + 1, _, rfl, by omega, rfl, hr2, hs.trans hs2 fun _ _ h => h, by omega⟩
  · obtain rfl : i = (8 - a % 8) % 8 := by omega
    subst hK
    have e : rAlign bs a = (0, a + (8 - a % 8) % 8) := by rw [rAlign, if_neg (by omega)]
    simp only [e] at hQ
    simp -implicitDefEqProofs -dsimp (disch := omega) only [go_sem, Nat.reduceEqDiff, ↓reduceIte, Nat.reduceAdd, Nat.reduceMul, Nat.reduceSub, Nat.reduceLT, Nat.reduceLeDiff, Int.reduceLT, Int.reduceLE, Int.reduceEq, Int.reduceNeg, Int.reduceAdd, Int.reduceMul, Int.reduceSub, Int.reduceToNat, reduceCtorEq, ]
    exact hQ H1 hr hs
end Go.Ab
