/- Segments: a header's bits are read. Conditions: none. -/
import Derived.Test.YtnpdnkmnnmmagaaSe
set_option linter.all false
namespace Go.Ab
structure HkX where
  i : Nat
  a : Nat
  K : List Bool
  w : V
def HkX.fr (b1 b2 b6 cnt : Nat) (x : HkX) : Fr := ⟨[(1, .ptr (some (b1, 0))), (2, .ptr (some (b2, 0))), (6, .ptr (some (b6, 0))), (75, .int .i64 (cnt : Nat)), (76, .int .i64 (x.i : Nat))], []⟩
def hkC (num kind page : Int) (v w : V) : List V := [.int .i64 num, .int .i64 kind, .int .i64 page, v, w, .bool false, .sl none 0 0 0]
def hkT (r : Nat) (bs : List Nat) (b1 b2 : Nat) (num kind page : Int) (v : V) (a : Nat) (K : List Bool) (w : V) (R : List As) : List As :=
  RdA r bs a :: Cel b2 (hkC num kind page v w) :: Lst w 1 K.length (bools K) :: Cel b1 [.ptr (some (r, 0))] :: R
section
variable {P : Prog} {H : Heap} {R : List As} {Q : Out → Heap → Prop}
set_option maxHeartbeats 1000000 in
theorem head_l0 (hp : HasSeg P) (hb : HasBits P) {r b1 b2 b6 cnt a0 : Nat} {num kind page : Int} {bs : List Nat} {v w0 : V} (hc : cnt ≤ 32768) (hv : one v = true) (hs : Hs H (hkT r bs b1 b2 num kind page v a0 [] w0 R)) {Qp : Post} {s' t'}
    (h1 : ∀ K a w H' ex, keepR bs cnt a0 = .ok (K, a) → K.length = cnt → Hs H' (hkT r bs b1 b2 num kind page v a K w R) → Qp (.exit 2) ⟨(1, .ptr (some (b1, 0))) :: (2, .ptr (some (b2, 0))) :: (6, .ptr (some (b6, 0))) :: ex, []⟩ H')
    (h2 : ∀ e H' tm, keepR bs cnt a0 = .error e → Hs H' R → Qp (.pan (flt e)) ⟨tm, []⟩ H') :
    loopL (Call P) [1, 2, 6, 75, 76] segment_reader_head_l0 Qp s' t' (HkX.fr b1 b2 b6 cnt ⟨0, a0, [], w0⟩) H := by
  refine loop_decP (σ := HkX) (fun x => cnt - x.i) (HkX.fr b1 b2 b6 cnt) (fun x H => x.i ≤ cnt ∧ x.K.length = x.i ∧ pre x.K (keepR bs (cnt - x.i) x.a) = keepR bs cnt a0 ∧ Hs H (hkT r bs b1 b2 num kind page v x.a x.K x.w R))
    (fun x H K ok hn hx hy hz => ?_) ⟨0, a0, [], w0⟩ H ⟨Nat.zero_le _, rfl, ?_, hs⟩
  rotate_left
  · dsimp only
    rw [Nat.sub_zero]
    cases keepR bs cnt a0 <;> rfl
  obtain ⟨i, a, L, w⟩ := x
  obtain ⟨hi, hl, hin, h⟩ := ok
  dsimp only at hi hl hin h hn
  unfold HkX.fr
  by_cases hlt : i < cnt
  · have cS := rd_s (Hs.p1 h).cel
    have c1 := rd_m (Hs.p3 h).cel 1
    rw [show cnt - i = (cnt - (i + 1)) + 1 by omega, keepR] at hin
    unfold hkC at cS
    simp -implicitDefEqProofs -dsimp (disch := omega) only [go_sem, Nat.reduceEqDiff, ↓reduceIte, Nat.reduceAdd, Nat.reduceMul, Nat.reduceSub, Nat.reduceLT, Nat.reduceLeDiff, Int.reduceLT, Int.reduceLE, Int.reduceEq, Int.reduceNeg, Int.reduceAdd, Int.reduceMul, Int.reduceSub, Int.reduceToNat, reduceCtorEq, dec_t, dec_f, segment_reader_head_l0, c1, cS]
    refine flag_ct hp hb h (fun n a' H' e g => ?_) (fun e H' k g => ?_)
    · rw [e, exb_ok, pre_cons] at hin
      have hn := fun w => hn ⟨i + 1, a', L ++ [n], w⟩
      have cS := rd_s (Hs.p1 g).cel
      unfold hkC at cS
      obtain ⟨v2, H2, ha, hoo, hsm, hf⟩ := app_one (Hs.p2 g).own (M := [.bool n]) (m := 1) (eb := 1) rfl rfl (by omega) (by omega)
      have g2 := (Hs.p2 g).lst' hsm hoo hf
      obtain ⟨va, vc, ve, rfl⟩ := hoo.arr.shape
      have wS := wr_s (Hs.p2 g2).cel 4
      unfold hkC at wS
      obtain ⟨wa, wc, we, hw⟩ := (Hs.p2 g).own.arr.shape
      subst hw
      simp -implicitDefEqProofs -dsimp (disch := omega) only [go_sem, Nat.reduceEqDiff, ↓reduceIte, Nat.reduceAdd, Nat.reduceMul, Nat.reduceSub, Nat.reduceLT, Nat.reduceLeDiff, Int.reduceLT, Int.reduceLE, Int.reduceEq, Int.reduceNeg, Int.reduceAdd, Int.reduceMul, Int.reduceSub, Int.reduceToNat, reduceCtorEq, dec_t, dec_f, ]
      refine aft_intro (t := tag _) (by simp [rechecks, recheck, fresh, Fr.get, Fr.put, look, step, opd, cS]) ?_
      simp -implicitDefEqProofs -dsimp (disch := omega) only [go_sem, Nat.reduceEqDiff, ↓reduceIte, Nat.reduceAdd, Nat.reduceMul, Nat.reduceSub, Nat.reduceLT, Nat.reduceLeDiff, Int.reduceLT, Int.reduceLE, Int.reduceEq, Int.reduceNeg, Int.reduceAdd, Int.reduceMul, Int.reduceSub, Int.reduceToNat, reduceCtorEq, dec_t, dec_f, cS, ha, wS, cadd1, w64]
      have g3 := (Hs.p2 g2).put (l' := hkC num kind page v (.sl va (L.length + 1) vc ve))
      refine hn (.sl va (L.length + 1) vc ve) _ (by dsimp only; omega) ⟨by dsimp only; omega, by simp [hl], hin, ?_⟩
      have g4 := Hs.p2 g3
      unfold hkT
      simp only [List.length_append, List.length_singleton, bools, List.map_append, List.map_cons, List.map_nil] at g4 ⊢
      exact g4
    · rw [k, exb_er] at hin
      simp -implicitDefEqProofs -dsimp (disch := omega) only [go_sem, Nat.reduceEqDiff, ↓reduceIte, Nat.reduceAdd, Nat.reduceMul, Nat.reduceSub, Nat.reduceLT, Nat.reduceLeDiff, Int.reduceLT, Int.reduceLE, Int.reduceEq, Int.reduceNeg, Int.reduceAdd, Int.reduceMul, Int.reduceSub, Int.reduceToNat, reduceCtorEq, dec_t, dec_f, ]
      rw [hz]
      exact h2 e _ _ hin.symm g.tail.tail.tail
  · have hi' : i = cnt := by omega
    subst hi'
    rw [Nat.sub_self, keepR, pre, exb_ok, List.append_nil] at hin
    simp -implicitDefEqProofs -dsimp (disch := omega) only [go_sem, Nat.reduceEqDiff, ↓reduceIte, Nat.reduceAdd, Nat.reduceMul, Nat.reduceSub, Nat.reduceLT, Nat.reduceLeDiff, Int.reduceLT, Int.reduceLE, Int.reduceEq, Int.reduceNeg, Int.reduceAdd, Int.reduceMul, Int.reduceSub, Int.reduceToNat, reduceCtorEq, dec_t, dec_f, segment_reader_head_l0]
    rw [hx]
    exact h1 L a w H _ hin.symm hl h
end
end Go.Ab
