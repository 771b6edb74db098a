/- Segments: a header's two lists are read. Conditions: none. -/
import Derived.Test.YtnpdnkmnnmmagaaSd
set_option linter.all false
namespace Go.Ab
def exb {α β : Type} (x : Except Int α) (f : α → Except Int β) : Except Int β := match x with
  | .ok a => f a
  | .error e => .error e
theorem exb_ok {α β : Type} (a : α) (f : α → Except Int β) : exb (.ok a) f = f a := rfl
theorem exb_er {α β : Type} (e : Int) (f : α → Except Int β) : exb (.error e) f = .error e := rfl
def flgR (bs : List Nat) (a : Nat) : Except Int (Bool × Nat) := exb (takR bs a 1) fun p => .ok (decide (p.1 = 1), p.2)
def refsR (bs : List Nat) (num : Nat) : Nat → Int → Nat → Except Int (List Int × Nat)
  | 0, _, a => .ok ([], a)
  | k + 1, ah, a => exb (numR bs num a) fun p => if (p.1 : Int) ≤ ah then .error 161 else exb (refsR bs num k p.1 p.2) fun q => .ok ((p.1 : Int) :: q.1, q.2)
def keepR (bs : List Nat) : Nat → Nat → Except Int (List Bool × Nat)
  | 0, a => .ok ([], a)
  | k + 1, a => exb (flgR bs a) fun p => exb (keepR bs k p.2) fun q => .ok (p.1 :: q.1, q.2)
def pre {α : Type} (L : List α) (x : Except Int (List α × Nat)) : Except Int (List α × Nat) := exb x fun p => .ok (L ++ p.1, p.2)
theorem pre_cons {α : Type} (L : List α) (n : α) (x : Except Int (List α × Nat)) : pre L (exb x fun q => .ok (n :: q.1, q.2)) = pre (L ++ [n]) x := by
  cases x with
  | error e => rfl
  | ok p => simp [pre, exb]
section
variable {P : Prog} {H : Heap} {R : List As} {Q : Out → Heap → Prop}
theorem taken (hp : HasSeg P) {bs : List Nat} {a : Nat} {k : Int} (h0 : ∀ n a', takR bs a k = .ok (n, a') → (rTake bs a k) = (n, 0, a') → Q (.ret (.tup [])) H) (h1 : ∀ e, takR bs a k = .error e → Q (.pan (flt e)) H) : Call P 158 [.int .i64 (rTake bs a k).2.1] H Q := by
  unfold takR at h0 h1
  refine need_ct hp (fun k => ?_) (fun k => ?_) (fun k k2 => ?_)
  · exact h0 _ _ (by rw [if_neg (by omega), if_neg (by omega)]) (by rw [← k])
  · exact h1 163 (if_pos k)
  · exact h1 161 (by rw [if_neg k, if_pos k2])
theorem flag_ct (hp : HasSeg P) (hb : HasBits P) {r a : Nat} {bs : List Nat} (hs : Hs H (RdA r bs a :: R))
    (h1 : ∀ b a' H', flgR bs a = .ok (b, a') → Hs H' (RdA r bs a' :: R) → Q (.ret (.bool b)) H') (h2 : ∀ e H', flgR bs a = .error e → Hs H' R → Q (.pan (flt e)) H') :
    Call P 160 [.agg [.ptr (some (r, 0))]] H Q := by
  refine call_of hp.h_segment_reader_flag rfl ?_
  have g1 := hs.alloc (l := [.ptr (some (r, 0))])
  simp -implicitDefEqProofs -dsimp (disch := omega) only [go_sem, Nat.reduceEqDiff, ↓reduceIte, Nat.reduceAdd, Nat.reduceMul, Nat.reduceSub, Nat.reduceLT, Nat.reduceLeDiff, Int.reduceLT, Int.reduceLE, Int.reduceEq, Int.reduceNeg, Int.reduceAdd, Int.reduceMul, Int.reduceSub, Int.reduceToNat, reduceCtorEq, dec_t, dec_f, ]
  refine rTakeA hb g1.p1 fun H1 g2 => ?_
  unfold flgR at h1 h2
  simp -implicitDefEqProofs -dsimp (disch := omega) only [go_sem, Nat.reduceEqDiff, ↓reduceIte, Nat.reduceAdd, Nat.reduceMul, Nat.reduceSub, Nat.reduceLT, Nat.reduceLeDiff, Int.reduceLT, Int.reduceLE, Int.reduceEq, Int.reduceNeg, Int.reduceAdd, Int.reduceMul, Int.reduceSub, Int.reduceToNat, reduceCtorEq, dec_t, dec_f, ]
  refine taken hp (fun n a' k k2 => ?_) fun e k => ?_
  · rw [k2] at g2 ⊢
    have h1 := h1 (decide (n = 1)) a' H1 (by rw [k]; rfl) (Hs.p1 g2).tail
    simp -implicitDefEqProofs -dsimp (disch := omega) only [go_sem, Nat.reduceEqDiff, ↓reduceIte, Nat.reduceAdd, Nat.reduceMul, Nat.reduceSub, Nat.reduceLT, Nat.reduceLeDiff, Int.reduceLT, Int.reduceLE, Int.reduceEq, Int.reduceNeg, Int.reduceAdd, Int.reduceMul, Int.reduceSub, Int.reduceToNat, reduceCtorEq, dec_t, dec_f, ]
    rw [show decide ((n : Int) = 1) = decide (n = 1) from dec_iff (by omega)]
    exact h1
  · simp -implicitDefEqProofs -dsimp (disch := omega) only [go_sem, Nat.reduceEqDiff, ↓reduceIte, Nat.reduceAdd, Nat.reduceMul, Nat.reduceSub, Nat.reduceLT, Nat.reduceLeDiff, Int.reduceLT, Int.reduceLE, Int.reduceEq, Int.reduceNeg, Int.reduceAdd, Int.reduceMul, Int.reduceSub, Int.reduceToNat, reduceCtorEq, dec_t, dec_f, ]
    exact h2 e H1 (by rw [k]; rfl) g2.tail.tail
structure HdX where
  i : Nat
  ah : Int
  a : Nat
  L : List Int
  v : V
def HdX.fr (b1 b2 b6 cnt : Nat) (x : HdX) : Fr := ⟨[(1, .ptr (some (b1, 0))), (2, .ptr (some (b2, 0))), (6, .ptr (some (b6, 0))), (8, .int .i64 (cnt : Nat)), (9, .int .i64 x.ah), (56, .int .i64 (cnt : Nat)), (57, .int .i64 (x.i : Nat))], []⟩
def hdC (num kind page : Int) (v : V) : List V := [.int .i64 num, .int .i64 kind, .int .i64 page, v, .sl none 0 0 0, .bool false, .sl none 0 0 0]
def hdT (r : Nat) (bs : List Nat) (b1 b2 : Nat) (num kind page : Int) (a : Nat) (L : List Int) (v : V) (R : List As) : List As :=
  RdA r bs a :: Cel b2 (hdC num kind page v) :: Lst v 1 L.length (i64s L) :: Cel b1 [.ptr (some (r, 0))] :: R
set_option maxHeartbeats 1000000 in
theorem head_l1 (hp : HasSeg P) (hb : HasBits P) {r b1 b2 b6 cnt num a0 : Nat} {kind page : Int} {bs : List Nat} {v0 : V} (hc : cnt ≤ 32768) (hn : num ≤ 32768) (hs : Hs H (hdT r bs b1 b2 num kind page a0 [] v0 R)) {Qp : Post} {s' t'}
    (h1 : ∀ L a v H' ex, refsR bs num cnt (-1) a0 = .ok (L, a) → L.length = cnt → Hs H' (hdT r bs b1 b2 num kind page a L v R) → Qp (.exit 0) ⟨(1, .ptr (some (b1, 0))) :: (2, .ptr (some (b2, 0))) :: (6, .ptr (some (b6, 0))) :: (8, .int .i64 (cnt : Nat)) :: ex, []⟩ H')
    (h2 : ∀ e H' tm, refsR bs num cnt (-1) a0 = .error e → Hs H' R → Qp (.pan (flt e)) ⟨tm, []⟩ H') :
    loopL (Call P) [1, 2, 6, 8, 9, 56, 57] segment_reader_head_l1 Qp s' t' (HdX.fr b1 b2 b6 cnt ⟨0, -1, a0, [], v0⟩) H := by
  refine loop_decP (σ := HdX) (fun x => cnt - x.i) (HdX.fr b1 b2 b6 cnt) (fun x H => x.i ≤ cnt ∧ x.L.length = x.i ∧ pre x.L (refsR bs num (cnt - x.i) x.ah x.a) = refsR bs num cnt (-1) a0 ∧ Hs H (hdT r bs b1 b2 num kind page x.a x.L x.v R))
    (fun x H K ok hn hx hy hz => ?_) ⟨0, -1, a0, [], v0⟩ H ⟨Nat.zero_le _, rfl, ?_, hs⟩
  rotate_left
  · dsimp only
    rw [Nat.sub_zero]
    cases refsR bs num cnt (-1) a0 <;> rfl
  obtain ⟨i, ah, a, L, v⟩ := x
  obtain ⟨hi, hl, hin, h⟩ := ok
  dsimp only at hi hl hin h hn
  unfold HdX.fr
  by_cases hlt : i < cnt
  · have cS := rd_s (Hs.p1 h).cel
    have c1 := rd_m (Hs.p3 h).cel 1
    rw [show cnt - i = (cnt - (i + 1)) + 1 by omega, refsR] at hin
    unfold hdC at cS
    simp -implicitDefEqProofs -dsimp (disch := omega) only [go_sem, Nat.reduceEqDiff, ↓reduceIte, Nat.reduceAdd, Nat.reduceMul, Nat.reduceSub, Nat.reduceLT, Nat.reduceLeDiff, Int.reduceLT, Int.reduceLE, Int.reduceEq, Int.reduceNeg, Int.reduceAdd, Int.reduceMul, Int.reduceSub, Int.reduceToNat, reduceCtorEq, dec_t, dec_f, segment_reader_head_l1, c1, cS]
    refine number_ct hp hb h (by omega) (fun n a' H' e hn2 g => ?_) (fun e H' k g => ?_)
    · rw [e, exb_ok] at hin
      have hn := fun w => hn ⟨i + 1, n, a', L ++ [(n : Int)], w⟩
      simp -implicitDefEqProofs -dsimp (disch := omega) only [go_sem, Nat.reduceEqDiff, ↓reduceIte, Nat.reduceAdd, Nat.reduceMul, Nat.reduceSub, Nat.reduceLT, Nat.reduceLeDiff, Int.reduceLT, Int.reduceLE, Int.reduceEq, Int.reduceNeg, Int.reduceAdd, Int.reduceMul, Int.reduceSub, Int.reduceToNat, reduceCtorEq, dec_t, dec_f, ]
      refine wrong_ct hp (fun k => ?_) (fun k => ?_)
      · have k : ¬ (n : Int) ≤ ah := of_decide_eq_false k
        dsimp only at hin
        rw [if_neg k, pre_cons] at hin
        have cS := rd_s (Hs.p1 g).cel
        unfold hdC at cS
        obtain ⟨v2, H2, ha, hoo, hsm, hf⟩ := app_one (Hs.p2 g).own (M := [.int .i64 (n : Nat)]) (m := 1) (eb := 8) rfl rfl (by omega) (by omega)
        have g2 := (Hs.p2 g).lst' hsm hoo hf
        obtain ⟨va, vc, ve, rfl⟩ := hoo.arr.shape
        have wS := wr_s (Hs.p2 g2).cel 3
        unfold hdC at wS
        simp -implicitDefEqProofs -dsimp (disch := omega) only [go_sem, Nat.reduceEqDiff, ↓reduceIte, Nat.reduceAdd, Nat.reduceMul, Nat.reduceSub, Nat.reduceLT, Nat.reduceLeDiff, Int.reduceLT, Int.reduceLE, Int.reduceEq, Int.reduceNeg, Int.reduceAdd, Int.reduceMul, Int.reduceSub, Int.reduceToNat, reduceCtorEq, dec_t, dec_f, cS, ha, wS, cadd1, w64]
        have g3 := (Hs.p2 g2).put (l' := hdC num kind page (.sl va (L.length + 1) vc ve))
        refine hn (.sl va (L.length + 1) vc ve) _ (by dsimp only; omega) ⟨by dsimp only; omega, by simp [hl], hin, ?_⟩
        have g4 := Hs.p2 g3
        unfold hdT
        simp only [List.length_append, List.length_singleton, i64s, List.map_append, List.map_cons, List.map_nil] at g4 ⊢
        exact g4
      · have k : (n : Int) ≤ ah := of_decide_eq_true k
        dsimp only at hin
        rw [if_pos k] at hin
        simp -implicitDefEqProofs -dsimp (disch := omega) only [go_sem, Nat.reduceEqDiff, ↓reduceIte, Nat.reduceAdd, Nat.reduceMul, Nat.reduceSub, Nat.reduceLT, Nat.reduceLeDiff, Int.reduceLT, Int.reduceLE, Int.reduceEq, Int.reduceNeg, Int.reduceAdd, Int.reduceMul, Int.reduceSub, Int.reduceToNat, reduceCtorEq, dec_t, dec_f, ]
        rw [hz]
        exact h2 161 _ _ hin.symm g.tail.tail.tail.tail
    · rw [k, exb_er] at hin
      simp -implicitDefEqProofs -dsimp (disch := omega) only [go_sem, Nat.reduceEqDiff, ↓reduceIte, Nat.reduceAdd, Nat.reduceMul, Nat.reduceSub, Nat.reduceLT, Nat.reduceLeDiff, Int.reduceLT, Int.reduceLE, Int.reduceEq, Int.reduceNeg, Int.reduceAdd, Int.reduceMul, Int.reduceSub, Int.reduceToNat, reduceCtorEq, dec_t, dec_f, ]
      rw [hz]
      exact h2 e _ _ hin.symm g.tail.tail.tail
  · have hi' : i = cnt := by omega
    subst hi'
    rw [Nat.sub_self, refsR, pre, exb_ok, List.append_nil] at hin
    simp -implicitDefEqProofs -dsimp (disch := omega) only [go_sem, Nat.reduceEqDiff, ↓reduceIte, Nat.reduceAdd, Nat.reduceMul, Nat.reduceSub, Nat.reduceLT, Nat.reduceLeDiff, Int.reduceLT, Int.reduceLE, Int.reduceEq, Int.reduceNeg, Int.reduceAdd, Int.reduceMul, Int.reduceSub, Int.reduceToNat, reduceCtorEq, dec_t, dec_f, segment_reader_head_l1]
    rw [hx]
    exact h1 L a v H _ hin.symm hl h
end
end Go.Ab
