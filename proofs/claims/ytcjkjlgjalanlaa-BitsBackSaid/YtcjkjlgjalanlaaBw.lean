/- Lend and Back: bytes in a list with marks behind them. Conditions: none. -/
import Derived.Test.YtcjkjlgjalanlaaBt
set_option linter.all false
namespace Go.Ab

theorem over_at (A Z : List V) (z v : V) : over (A ++ z :: Z) A.length [v] = A ++ v :: Z := by
  simp [over, List.take_append, List.drop_append]
theorem over_nil' (l : List V) (o : Nat) : over l o [] = l := by simp [over]
/-- Elements are laid into the room behind a list. -/
theorem Hs.app_in {H : Heap} {B len cap e eb m : Nat} {l M : List V} {y : V} {R : List As} (h : Hs H (Cel B l :: R)) (hy : firsts H e y = some (m, M)) (hm : M.length = m * e) (ho : M.all one = true) (hc : len + m ≤ cap) (hl : cap * e ≤ l.length) :
    ∃ H', app H e eb (.sl (some (B, 0)) len cap e) y = some (.sl (some (B, 0)) (len + m) cap e, H') ∧ Hs H' (Cel B (over l (len * e) M) :: R) := by
  have hce : (len + m) * e ≤ cap * e := Nat.mul_le_mul_right _ hc
  rw [Nat.add_mul] at hce
  simp only [app, hy, Option.isSome_some, Bool.true_and, bne_self_eq_false, Bool.false_eq_true, if_false, ho, if_true]
  rw [if_pos hc]
  cases M with
  | nil => exact ⟨H, by simp, by rw [over_nil']; exact h⟩
  | cons x M =>
    refine ⟨H.put B (.cells (over l (len * e) (x :: M)) true), ?_, h.put⟩
    simp only [List.isEmpty_cons, Bool.false_eq_true, if_false, wr_s h.cel, Nat.zero_add]
    rw [if_pos (by omega), if_pos ho]; rfl

theorem reps_u8' (n : Nat) : reps [.int .u8 0] n = u8s (List.replicate n 0) := reps_u8 n

def LnI (x : V) (bs : List Nat) (B : Nat) (R : List As) (k : Nat) (fr : Fr) (H : Heap) : Prop :=
  ∃ i : Nat, k = 7 - i ∧ i ≤ 7 ∧ fr = ⟨[(0, x), (3, .sl (some (B, 0)) (bs.length + i) (bs.length + 7) 1), (4, .int .i64 i)], []⟩ ∧ Hs H (Cel B (u8s (bs ++ List.replicate i 165 ++ List.replicate (7 - i) 0)) :: R)

theorem lendA {P : Prog} (hp : HasKit P) {H : Heap} {x : V} {bs : List Nat} {R : List As} (h : Hs H R) (hx : Arr H x 1 bs.length (u8s bs)) (hl : bs.length ≤ 140737488355328) {Q : Out → Heap → Prop}
    (hQ : ∀ B H', Hs H' (Cel B (u8s (bs ++ List.replicate 7 165)) :: R) → Q (.ret (.sl (some (B, 0)) bs.length (bs.length + 7) 1)) H') : Call P 30 [x] H Q := by
  obtain ⟨a, c, e', rfl⟩ := hx.shape
  refine call_of hp.h_burinkit_Lend rfl ?_
  have et : ((bs.length : Int) + 7).toNat = bs.length + 7 := by omega
  simp -implicitDefEqProofs -dsimp (disch := omega) only [go_sem, Nat.reduceEqDiff, ↓reduceIte, Nat.reduceAdd, Nat.reduceMul, Nat.reduceSub, Nat.reduceLT, Nat.reduceLeDiff, Int.reduceLT, Int.reduceLE, Int.reduceEq, Int.reduceNeg, Int.reduceAdd, Int.reduceMul, Int.reduceSub, Int.reduceToNat, reduceCtorEq, dec_t, dec_f, w64, et, Int.toNat_zero, reps_u8]
  have h1 := h.alloc (l := u8s (List.replicate (bs.length + 7) 0))
  have hx1 := hx.same (Same.new (fun _ => False) H (.cells (u8s (List.replicate (bs.length + 7) 0)) true)) (fun _ _ h => h)
  generalize H.new (.cells (u8s (List.replicate (bs.length + 7) 0)) true) = H1 at h1 hx1
  generalize H.next = B at h1
  obtain ⟨H2, a2, h2⟩ := h1.app_in (len := 0) (cap := bs.length + 7) (eb := 1) (firsts_arr hx1) (by simp [u8s]) (u8s_one bs) (by omega) (by simp [u8s])
  have e2 : over (u8s (List.replicate (bs.length + 7) 0)) (0 * 1) (u8s bs) = u8s (bs ++ List.replicate 0 165 ++ List.replicate (7 - 0) 0) := by
    simp only [over, u8s, List.length_map, List.map_append, List.map_replicate]
    simp
  rw [e2] at h2
  rw [Nat.zero_add] at a2
  simp -implicitDefEqProofs -dsimp (disch := omega) only [go_sem, Nat.reduceEqDiff, ↓reduceIte, Nat.reduceAdd, Nat.reduceMul, Nat.reduceSub, Nat.reduceLT, Nat.reduceLeDiff, Int.reduceLT, Int.reduceLE, Int.reduceEq, Int.reduceNeg, Int.reduceAdd, Int.reduceMul, Int.reduceSub, Int.reduceToNat, reduceCtorEq, dec_t, dec_f, a2]
  refine loop_inv (LnI _ bs B R) ?_ 7 _ _ ⟨0, rfl, by omega, rfl, h2⟩
  rintro k fr H3 ⟨i, hk, hi, rfl, h3⟩
  generalize hK : rnd (LnI _ bs B R) k = K
  by_cases h7 : i < 7
  · have h4 := h3.keep (Same.new (fun _ => False) H3 (.cells [.int .u8 165] true))
    obtain ⟨H4, a4, h5⟩ := h4.app_in (len := bs.length + i) (cap := bs.length + 7) (eb := 1) (firsts_new1 H3 [.int .u8 165] 1 1 rfl) rfl rfl (by omega) (by simp [u8s]; omega)
    have e5 : over (u8s (bs ++ List.replicate i 165 ++ List.replicate (7 - i) 0)) ((bs.length + i) * 1) [.int .u8 165] = u8s (bs ++ List.replicate (i + 1) 165 ++ List.replicate (7 - (i + 1)) 0) := by
      have e6 : List.replicate (7 - i) 0 = (0 : Nat) :: List.replicate (7 - (i + 1)) 0 := by rw [← List.replicate_succ]; congr 1; omega
      rw [e6]
      simp only [u8s, List.map_append, List.map_cons, List.replicate_succ', List.append_assoc]
      have := over_at (List.map (fun (n : Nat) => V.int .u8 n) bs ++ List.map (fun (n : Nat) => V.int .u8 n) (List.replicate i 165)) (List.map (fun (n : Nat) => V.int .u8 n) (List.replicate (7 - (i + 1)) 0)) (.int .u8 (0 : Nat)) (.int .u8 165)
      simp only [List.length_append, List.length_map, List.length_replicate, List.append_assoc] at this
      rw [Nat.mul_one, this]; rfl
    rw [e5] at h5
    simp -implicitDefEqProofs -dsimp (disch := omega) only [go_sem, Nat.reduceEqDiff, ↓reduceIte, Nat.reduceAdd, Nat.reduceMul, Nat.reduceSub, Nat.reduceLT, Nat.reduceLeDiff, Int.reduceLT, Int.reduceLE, Int.reduceEq, Int.reduceNeg, Int.reduceAdd, Int.reduceMul, Int.reduceSub, Int.reduceToNat, reduceCtorEq, dec_t, dec_f, burinkit_Lend_l0, a4, w64, cadd1]
    subst hK
    exact rnd_n (7 - (i + 1)) (by omega) ⟨i + 1, rfl, by omega, by rw [Nat.add_assoc], h5⟩
  · obtain rfl : i = 7 := by omega
    simp -implicitDefEqProofs -dsimp (disch := omega) only [go_sem, Nat.reduceEqDiff, ↓reduceIte, Nat.reduceAdd, Nat.reduceMul, Nat.reduceSub, Nat.reduceLT, Nat.reduceLeDiff, Int.reduceLT, Int.reduceLE, Int.reduceEq, Int.reduceNeg, Int.reduceAdd, Int.reduceMul, Int.reduceSub, Int.reduceToNat, reduceCtorEq, dec_t, dec_f, burinkit_Lend_l0]
    subst hK
    have ec : ((bs.length + 7 : Nat) : Int) = (bs.length : Int) + 7 := by omega
    simp -implicitDefEqProofs -dsimp (disch := omega) only [go_sem, Nat.reduceEqDiff, ↓reduceIte, Nat.reduceAdd, Nat.reduceMul, Nat.reduceSub, Nat.reduceLT, Nat.reduceLeDiff, Int.reduceLT, Int.reduceLE, Int.reduceEq, Int.reduceNeg, Int.reduceAdd, Int.reduceMul, Int.reduceSub, Int.reduceToNat, reduceCtorEq, dec_t, dec_f, Int.toNat_natCast, ec]
    exact hQ B H3 (by simpa using h3)

def BkI (n B : Nat) (l : List V) (R : List As) (k : Nat) (fr : Fr) (H : Heap) : Prop :=
  ∃ i : Nat, k = n + 7 - i ∧ n ≤ i ∧ i ≤ n + 7 ∧ fr = ⟨[(5, .bool true), (6, .sl (some (B, 0)) (n + 7) (n + 7) 1), (7, .int .i64 i)], []⟩ ∧ Hs H (Cel B l :: R)
def BkJ (n B : Nat) (R : List As) (k : Nat) (fr : Fr) (H : Heap) : Prop :=
  ∃ (i : Nat) (l : List V), k = n + 7 - i ∧ i ≤ n + 7 ∧ l.length = n + 7 ∧ fr = ⟨[(5, .bool true), (6, .sl (some (B, 0)) (n + 7) (n + 7) 1), (8, .int .i64 i)], []⟩ ∧ Hs H (Cel B l :: R)
theorem backA {P : Prog} (hp : HasKit P) {H : Heap} {y : V} {bs : List Nat} {B : Nat} {R : List As} (h : Hs H (Cel B (u8s (bs ++ List.replicate 7 165)) :: R)) (hy : Arr H y 1 bs.length (u8s bs)) (hl : bs.length ≤ 140737488355328) {Q : Out → Heap → Prop}
    (hQ : ∀ H', Hs H' R → Q (.ret (.bool true)) H') : Call P 31 [.sl (some (B, 0)) bs.length (bs.length + 7) 1, y] H Q := by
  obtain ⟨a, c, e', rfl⟩ := hy.shape
  refine call_of hp.h_burinkit_Back rfl ?_
  simp -implicitDefEqProofs -dsimp (disch := omega) only [go_sem, Nat.reduceEqDiff, ↓reduceIte, Nat.reduceAdd, Nat.reduceMul, Nat.reduceSub, Nat.reduceLT, Nat.reduceLeDiff, Int.reduceLT, Int.reduceLE, Int.reduceEq, Int.reduceNeg, Int.reduceAdd, Int.reduceMul, Int.reduceSub, Int.reduceToNat, reduceCtorEq, dec_t, dec_f, ]
  have hxa : Arr H (.sl (some (B, 0)) bs.length (bs.length + 7) 1) 1 bs.length (u8s bs) := Or.inr ⟨B, 0, bs.length + 7, _, true, rfl, h.cel, by simp [u8s], by simp [u8s], by omega, h.celt⟩
  refine eqA hp hxa hy (by omega) ?_
  have et : ((bs.length : Int) + 7).toNat = bs.length + 7 := by omega
  rw [show decide (bs = bs) = true by simp]
  simp -implicitDefEqProofs -dsimp (disch := omega) only [go_sem, Nat.reduceEqDiff, ↓reduceIte, Nat.reduceAdd, Nat.reduceMul, Nat.reduceSub, Nat.reduceLT, Nat.reduceLeDiff, Int.reduceLT, Int.reduceLE, Int.reduceEq, Int.reduceNeg, Int.reduceAdd, Int.reduceMul, Int.reduceSub, Int.reduceToNat, reduceCtorEq, dec_t, dec_f, w64, et]
  refine loop_inv (BkI bs.length B _ R) ?_ _ _ _ ⟨bs.length, rfl, by omega, by omega, rfl, h⟩
  rintro k fr H1 ⟨i, hk, hi, hi7, rfl, h1⟩
  generalize hK : rnd (BkI bs.length B _ R) k = K
  by_cases h7 : i < bs.length + 7
  · have hr : rd H1 none B i = some (.int .u8 165) := by
      rw [rd_s h1.cel]
      simp only [u8s]
      rw [List.map_append, List.getElem?_append_right (by simp; omega), List.map_replicate, List.getElem?_replicate, if_pos (by simp; omega)]; rfl
    simp -implicitDefEqProofs -dsimp (disch := omega) only [go_sem, Nat.reduceEqDiff, ↓reduceIte, Nat.reduceAdd, Nat.reduceMul, Nat.reduceSub, Nat.reduceLT, Nat.reduceLeDiff, Int.reduceLT, Int.reduceLE, Int.reduceEq, Int.reduceNeg, Int.reduceAdd, Int.reduceMul, Int.reduceSub, Int.reduceToNat, reduceCtorEq, dec_t, dec_f, burinkit_Back_l1, Int.toNat_natCast, Nat.mul_one, hr, w64, cadd1]
    subst hK
    exact rnd_n (bs.length + 7 - (i + 1)) (by omega) ⟨i + 1, rfl, by omega, by omega, rfl, h1⟩
  · simp -implicitDefEqProofs -dsimp (disch := omega) only [go_sem, Nat.reduceEqDiff, ↓reduceIte, Nat.reduceAdd, Nat.reduceMul, Nat.reduceSub, Nat.reduceLT, Nat.reduceLeDiff, Int.reduceLT, Int.reduceLE, Int.reduceEq, Int.reduceNeg, Int.reduceAdd, Int.reduceMul, Int.reduceSub, Int.reduceToNat, reduceCtorEq, dec_t, dec_f, burinkit_Back_l1]
    subst hK
    simp -implicitDefEqProofs -dsimp (disch := omega) only [go_sem, Nat.reduceEqDiff, ↓reduceIte, Nat.reduceAdd, Nat.reduceMul, Nat.reduceSub, Nat.reduceLT, Nat.reduceLeDiff, Int.reduceLT, Int.reduceLE, Int.reduceEq, Int.reduceNeg, Int.reduceAdd, Int.reduceMul, Int.reduceSub, Int.reduceToNat, reduceCtorEq, dec_t, dec_f, ]
    refine loop_inv (BkJ bs.length B R) ?_ _ _ _ ⟨0, _, rfl, by omega, by simp [u8s], rfl, h1⟩
    rintro k2 fr2 H2 ⟨j, l, hk2, hj, hll, rfl, h2⟩
    generalize hK2 : rnd (BkJ bs.length B R) k2 = K2
    by_cases h8 : j < bs.length + 7
    · simp -implicitDefEqProofs -dsimp (disch := omega) only [go_sem, Nat.reduceEqDiff, ↓reduceIte, Nat.reduceAdd, Nat.reduceMul, Nat.reduceSub, Nat.reduceLT, Nat.reduceLeDiff, Int.reduceLT, Int.reduceLE, Int.reduceEq, Int.reduceNeg, Int.reduceAdd, Int.reduceMul, Int.reduceSub, Int.reduceToNat, reduceCtorEq, dec_t, dec_f, burinkit_Back_l0, Int.toNat_natCast, Nat.mul_one, wr_s h2.cel]
      rw [if_pos (by omega)]
      simp -implicitDefEqProofs -dsimp (disch := omega) only [go_sem, Nat.reduceEqDiff, ↓reduceIte, Nat.reduceAdd, Nat.reduceMul, Nat.reduceSub, Nat.reduceLT, Nat.reduceLeDiff, Int.reduceLT, Int.reduceLE, Int.reduceEq, Int.reduceNeg, Int.reduceAdd, Int.reduceMul, Int.reduceSub, Int.reduceToNat, reduceCtorEq, dec_t, dec_f, w64, cadd1]
      subst hK2
      exact rnd_n (bs.length + 7 - (j + 1)) (by omega) ⟨j + 1, _, rfl, by omega, by simp [over]; omega, rfl, h2.put⟩
    · simp -implicitDefEqProofs -dsimp (disch := omega) only [go_sem, Nat.reduceEqDiff, ↓reduceIte, Nat.reduceAdd, Nat.reduceMul, Nat.reduceSub, Nat.reduceLT, Nat.reduceLeDiff, Int.reduceLT, Int.reduceLE, Int.reduceEq, Int.reduceNeg, Int.reduceAdd, Int.reduceMul, Int.reduceSub, Int.reduceToNat, reduceCtorEq, dec_t, dec_f, burinkit_Back_l0]
      subst hK2
      simp -implicitDefEqProofs -dsimp (disch := omega) only [go_sem, Nat.reduceEqDiff, ↓reduceIte, Nat.reduceAdd, Nat.reduceMul, Nat.reduceSub, Nat.reduceLT, Nat.reduceLeDiff, Int.reduceLT, Int.reduceLE, Int.reduceEq, Int.reduceNeg, Int.reduceAdd, Int.reduceMul, Int.reduceSub, Int.reduceToNat, reduceCtorEq, dec_t, dec_f, ]
      exact hQ H2 h2.tail
end Go.Ab
