/- What 'wakes' comes to. Conditions: none. -/
import Derived.Test.YtnpdnkmnnmmagaaBm
import Derived.Test.YtnpdnkmnnmmagaaBk
import Derived.Test.YtnpdnkmnnmmagaaPLawBits
set_option linter.all false
namespace Go.Ab

theorem groups300 : groups 300 = [172, 2] := by
  rw [groups, if_neg (by omega), groups, if_pos (by omega)]
theorem wakes_ct {P : Prog} (hp : HasBits P) (he : P 26 = some burinref0_Eq) (hw : P 32 = some burinlaw1_wakes) {H : Heap} {Q : Out → Heap → Prop}
    (hQ : ∀ H', Same (fun _ => False) H H' → Q (.ret (.bool true)) H') : Call P 32 [] H Q := by
  refine call_of hw rfl ?_
  simp -implicitDefEqProofs -dsimp (disch := omega) only [go_sem, Nat.reduceEqDiff, ↓reduceIte, Nat.reduceAdd, Nat.reduceMul, Nat.reduceSub, Nat.reduceLT, Nat.reduceLeDiff, Int.reduceLT, Int.reduceLE, Int.reduceEq, Int.reduceNeg, Int.reduceAdd, Int.reduceMul, Int.reduceSub, Int.reduceToNat, reduceCtorEq, ]
  refine newWriter hp (m := 4) (by omega) (fun h => by omega) (fun _ _ H1 w1 s1 => ?_)
  simp -implicitDefEqProofs -dsimp (disch := omega) only [go_sem, Nat.reduceEqDiff, ↓reduceIte, Nat.reduceAdd, Nat.reduceMul, Nat.reduceSub, Nat.reduceLT, Nat.reduceLeDiff, Int.reduceLT, Int.reduceLE, Int.reduceEq, Int.reduceNeg, Int.reduceAdd, Int.reduceMul, Int.reduceSub, Int.reduceToNat, reduceCtorEq, ]
  refine wPut_ct hp (n := 5) (k := 3) w1 (by omega) (by omega) (fun v2 H2 w2 s2 f2 => ?_)
  generalize h1 : wPut [] (Int.toNat 4) 5 3 = p1 at w2 ⊢
  obtain rfl : p1 = (0, [true, false, true]) := h1.symm.trans (by decide)
  clear h1
  simp -implicitDefEqProofs -dsimp (disch := omega) only [go_sem, Nat.reduceEqDiff, ↓reduceIte, Nat.reduceAdd, Nat.reduceMul, Nat.reduceSub, Nat.reduceLT, Nat.reduceLeDiff, Int.reduceLT, Int.reduceLE, Int.reduceEq, Int.reduceNeg, Int.reduceAdd, Int.reduceMul, Int.reduceSub, Int.reduceToNat, reduceCtorEq, ]
  refine wPut_ct hp (n := 1) (k := 1) w2 (by omega) (by omega) (fun v3 H3 w3 s3 f3 => ?_)
  generalize h2 : wPut [true, false, true] (Int.toNat 4) 1 1 = p2 at w3 ⊢
  obtain rfl : p2 = (0, [true, false, true, true]) := h2.symm.trans (by decide)
  clear h2
  simp -implicitDefEqProofs -dsimp (disch := omega) only [go_sem, Nat.reduceEqDiff, ↓reduceIte, Nat.reduceAdd, Nat.reduceMul, Nat.reduceSub, Nat.reduceLT, Nat.reduceLeDiff, Int.reduceLT, Int.reduceLE, Int.reduceEq, Int.reduceNeg, Int.reduceAdd, Int.reduceMul, Int.reduceSub, Int.reduceToNat, reduceCtorEq, ]
  refine wAlign_ct hp w3 (fun H4 w4 s4 => ?_)
  generalize h3 : wAlign [true, false, true, true] = p3 at w4
  obtain rfl : p3 = [true, false, true, true, false, false, false, false] := h3.symm.trans (by decide)
  clear h3
  simp -implicitDefEqProofs -dsimp (disch := omega) only [go_sem, Nat.reduceEqDiff, ↓reduceIte, Nat.reduceAdd, Nat.reduceMul, Nat.reduceSub, Nat.reduceLT, Nat.reduceLeDiff, Int.reduceLT, Int.reduceLE, Int.reduceEq, Int.reduceNeg, Int.reduceAdd, Int.reduceMul, Int.reduceSub, Int.reduceToNat, reduceCtorEq, ]
  refine wVar_ct hp (n := 300) w4 (by omega) (fun v5 H5 w5 s5 f5 => ?_)
  generalize h4 : wVar [true, false, true, true, false, false, false, false] (Int.toNat 4) 300 = p4 at w5 ⊢
  obtain rfl : p4 = (0, [true, false, true, true, false, false, false, false] ++ bytesBits [172, 2]) := h4.symm.trans (by rw [wVar, groups300]; decide)
  clear h4
  simp -implicitDefEqProofs -dsimp (disch := omega) only [go_sem, Nat.reduceEqDiff, ↓reduceIte, Nat.reduceAdd, Nat.reduceMul, Nat.reduceSub, Nat.reduceLT, Nat.reduceLeDiff, Int.reduceLT, Int.reduceLE, Int.reduceEq, Int.reduceNeg, Int.reduceAdd, Int.reduceMul, Int.reduceSub, Int.reduceToNat, reduceCtorEq, ]
  have hb : Bytes (H5.new (.cells [.int .u8 172, .int .u8 2] true)) (.sl (some (H5.next, 0)) 2 2 1) [172, 2] := Or.inr ⟨H5.next, rfl, by simp [get_new, u8s], rfl, by simp [next_new]⟩
  refine newReader hp (bs := [172, 2]) hb.arr (by simp) (by simp) (fun r v6 H6 r6 s6 f6 g6 => ?_)
  simp -implicitDefEqProofs -dsimp (disch := omega) only [go_sem, Nat.reduceEqDiff, ↓reduceIte, Nat.reduceAdd, Nat.reduceMul, Nat.reduceSub, Nat.reduceLT, Nat.reduceLeDiff, Int.reduceLT, Int.reduceLE, Int.reduceEq, Int.reduceNeg, Int.reduceAdd, Int.reduceMul, Int.reduceSub, Int.reduceToNat, reduceCtorEq, ]
  refine rVar_ct hp r6 (fun H7 r7 s7 => ?_)
  generalize h5 : rVar [172, 2] 0 = p5 at r7 ⊢
  obtain rfl : p5 = (300, 0, 16) := h5.symm.trans (by decide)
  clear h5
  have w5' : Wr H7 H.next v5 _ _ := (w5.same (Same.new (fun _ => False) _ _) (fun _ _ h => h)).same ((s6.mono fun _ _ h => h.elim).trans s7 fun _ _ h => h) (fun b hb => by
    have := w5.lt
    have : b < H5.next := by rcases hb with h | h; · subst h; exact w5.lt
                             · exact w5.bytes.lt h
    simp only [next_new] at f6; omega)
  simp -implicitDefEqProofs -dsimp (disch := omega) only [go_sem, Nat.reduceEqDiff, ↓reduceIte, Nat.reduceAdd, Nat.reduceMul, Nat.reduceSub, Nat.reduceLT, Nat.reduceLeDiff, Int.reduceLT, Int.reduceLE, Int.reduceEq, Int.reduceNeg, Int.reduceAdd, Int.reduceMul, Int.reduceSub, Int.reduceToNat, reduceCtorEq, ]
  refine wBytes hp w5' (fun v8 H8 b8 s8 f8 => ?_)
  simp -implicitDefEqProofs -dsimp (disch := omega) only [go_sem, Nat.reduceEqDiff, ↓reduceIte, Nat.reduceAdd, Nat.reduceMul, Nat.reduceSub, Nat.reduceLT, Nat.reduceLeDiff, Int.reduceLT, Int.reduceLE, Int.reduceEq, Int.reduceNeg, Int.reduceAdd, Int.reduceMul, Int.reduceSub, Int.reduceToNat, reduceCtorEq, ]
  have hb3 : Bytes (H8.new (.cells [.int .u8 176, .int .u8 172, .int .u8 2] true)) (.sl (some (H8.next, 0)) 3 3 1) [176, 172, 2] := Or.inr ⟨H8.next, rfl, by simp [get_new, u8s], rfl, by simp [next_new]⟩
  refine eq_ct he (b8.arr.same (Same.new (fun _ => False) _ _) (fun _ _ h => h)) hb3.arr (by decide) ?_
  rw [show decide (pack ([true, false, true, true, false, false, false, false] ++ bytesBits [172, 2]) = [176, 172, 2]) = true by decide]
  simp -implicitDefEqProofs -dsimp (disch := omega) only [go_sem, Nat.reduceEqDiff, ↓reduceIte, Nat.reduceAdd, Nat.reduceMul, Nat.reduceSub, Nat.reduceLT, Nat.reduceLeDiff, Int.reduceLT, Int.reduceLE, Int.reduceEq, Int.reduceNeg, Int.reduceAdd, Int.reduceMul, Int.reduceSub, Int.reduceToNat, reduceCtorEq, show ((300 : Nat) : Int) = 300 from rfl]
  have o : ∀ {v : V}, (∀ b, sb v b → H.next ≤ b) → ∀ b, b < H.next → wf H.next v b → False := fun hg b hb h => h.elim (fun e => by omega) (fun e => by have := hg b e; omega)
  have g2 : ∀ b, sb v2 b → H.next ≤ b := fun b h => (f2 b h).elim (fun h => h.elim) (fun h => Nat.le_trans s1.le h)
  have g3 : ∀ b, sb v3 b → H.next ≤ b := fun b h => (f3 b h).elim (g2 b) (fun h => Nat.le_trans (Nat.le_trans s1.le s2.le) h)
  have t3 : Same (fun _ => False) H H3 := (s1.trans s2 (o fun _ h => h.elim)).trans s3 (o g2)
  have t5 : Same (fun _ => False) H H5 := (t3.trans s4 (o g3)).trans s5 (o g3)
  have t7 : Same (fun _ => False) H H7 := ((t5.trans (Same.new (fun _ => False) _ _) fun _ _ h => h).trans s6 fun _ _ h => h).trans s7 fun b hb h => by
    have := t5.le; simp only [next_new] at f6; have h : b = r := h; omega
  exact hQ _ ((t7.trans s8 fun _ _ h => h).trans (Same.new _ _ _) fun _ _ h => h)
end Go.Ab
