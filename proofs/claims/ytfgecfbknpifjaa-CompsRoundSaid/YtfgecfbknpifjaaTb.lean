/- Two rows' runs that touch are put together. Conditions: none. -/
import Derived.Test.YtfgecfbknpifjaaTa
set_option linter.all false
namespace Go.Ab
/-- What stands for each behind the two rows. -/
def tchF (A B : List (Int × Int)) (i k : Nat) : Nat → Nat → Nat → (Nat → Nat) → (Nat → Nat)
  | 0, _, _, ρ => ρ
  | n + 1, a, b, ρ => match A[a]?, B[b]? with
    | some u, some v => if u.2 ≤ v.2 then tchF A B i k n (a + 1) b (if touchP u v then jn ρ (i + a) (k + b) else ρ) else tchF A B i k n a (b + 1) (if touchP u v then jn ρ (i + a) (k + b) else ρ)
    | _, _ => ρ
def tch (A B : List (Int × Int)) (i k : Nat) (ρ : Nat → Nat) : Nat → Nat := tchF A B i k (A.length + B.length) 0 0 ρ
theorem tchF_end {A B : List (Int × Int)} {i k : Nat} {n a b : Nat} {ρ : Nat → Nat} (h : A.length ≤ a ∨ B.length ≤ b) : tchF A B i k n a b ρ = ρ := by
  cases n with
  | zero => rfl
  | succ n =>
    unfold tchF
    rcases h with h | h
    · rw [List.getElem?_eq_none h]
    · rw [List.getElem?_eq_none h]; cases A[a]? <;> rfl
theorem rc_rd {H : Heap} {v : V} {A : List (Int × Int)} (h : Arr H v 2 A.length (rcells A)) {a : Nat} (ha : a < A.length) :
    ∃ b o c, v = .sl (some (b, o)) A.length c 2 ∧ rd H (some 2) b (o + a * 2) = some (.agg [.int .i64 A[a].1, .int .i64 A[a].2]) ∧ rd H none b (o + a * 2 + 1) = some (.int .i64 A[a].2) := by
  obtain ⟨b, o, c, rfl, _, h1, h2⟩ := h.at ha
  refine ⟨b, o, c, rfl, ?_, ?_⟩
  · have := h2 0 2 (by omega)
    rw [Nat.add_zero, Nat.add_zero, rcells_at ha] at this; exact this
  · rw [h1 1 (by omega)]
    have := congrArg (fun l => l[1]?) (rcells_at ha)
    rw [List.getElem?_take, if_pos (by omega), List.getElem?_drop] at this
    exact this
section
variable {P : Prog} {H : Heap} {R : List As} {Q : Out → Heap → Prop}
structure ToS where
  a : Nat
  b : Nat
  ρ : Nat → Nat
  F : List Nat
set_option maxHeartbeats 1000000 in
theorem touching_ct (hu : HasRu P) (hp : HasCo P) {fv av rv : V} {F : List Nat} {ρ : Nat → Nat} {A B : List (Int × Int)} {i k : Nat} (hs : Hs H (Lst fv 1 F.length (iV F) :: R)) (hF : Fst F ρ)
    (hA : ∀ H', Hs H' R → Arr H' av 2 A.length (rcells A)) (hB : ∀ H', Hs H' R → Arr H' rv 2 B.length (rcells B)) (hi : i + A.length ≤ F.length) (hk : k + B.length ≤ F.length) (hl : F.length < 4611686018427387904)
    (hQ : ∀ F' H', F'.length = F.length → Fst F' (tch A B i k ρ) → Hs H' (Lst fv 1 F'.length (iV F') :: R) → Q (.ret (.tup [])) H') : Call P 187 [fv, av, rv, .int .i64 (i : Nat), .int .i64 (k : Nat)] H Q := by
  refine call_of hp.h_comps_touching rfl ?_
  obtain ⟨pa, ca, ea, rfl⟩ := (hA H hs.tail).shape
  obtain ⟨pb, cb, eb, rfl⟩ := (hB H hs.tail).shape
  simp -implicitDefEqProofs -dsimp (disch := omega) only [go_sem, Nat.reduceEqDiff, ↓reduceIte, Nat.reduceAdd, Nat.reduceMul, Nat.reduceSub, Nat.reduceLT, Nat.reduceLeDiff, Int.reduceLT, Int.reduceLE, Int.reduceEq, Int.reduceNeg, Int.reduceAdd, Int.reduceMul, Int.reduceSub, Int.reduceToNat, reduceCtorEq, dec_t, dec_f, ]
  refine loop_dec (σ := ToS) (fun x => A.length + B.length - x.a - x.b) (fun x => ⟨[(0, fv), (1, .sl pa A.length ca ea), (2, .sl pb B.length cb eb), (3, .int .i64 (i : Nat)), (4, .int .i64 (k : Nat)), (10, .int .i64 (x.a : Nat)), (11, .int .i64 (x.b : Nat))], []⟩)
    (fun x H => x.a ≤ A.length ∧ x.b ≤ B.length ∧ tchF A B i k (A.length + B.length - x.a - x.b) x.a x.b x.ρ = tch A B i k ρ ∧ x.F.length = F.length ∧ Fst x.F x.ρ ∧ Hs H (Lst fv 1 x.F.length (iV x.F) :: R))
    (fun x H1 K ⟨ha, hb, ht, hl1, hf, h1⟩ hn hx hrr => ?_) ⟨0, 0, ρ, F⟩ H ⟨Nat.zero_le _, Nat.zero_le _, rfl, rfl, hF, hs⟩
  obtain ⟨a, b, ρ1, G⟩ := x
  dsimp only at ha hb ht hl1 hf h1 hn
  by_cases ka : a < A.length
  · by_cases kb : b < B.length
    · obtain ⟨xa, oa, c1, ev, ra1, ra2⟩ := rc_rd (hA _ h1.tail) ka
      cases ev
      obtain ⟨xb, ob, c2, ev, rb1, rb2⟩ := rc_rd (hB _ h1.tail) kb
      cases ev
      have eA := List.getElem?_eq_getElem ka
      have eB := List.getElem?_eq_getElem kb
      obtain ⟨ρ2, hρ2⟩ : ∃ ρ2, (if touchP A[a] B[b] then jn ρ1 (i + a) (k + b) else ρ1) = ρ2 := ⟨_, rfl⟩
      have eF : tchF A B i k (A.length + B.length - a - b) a b ρ1 = if A[a].2 ≤ B[b].2 then tchF A B i k (A.length + B.length - (a + 1) - b) (a + 1) b ρ2
          else tchF A B i k (A.length + B.length - a - (b + 1)) a (b + 1) ρ2 := by
        rw [show A.length + B.length - a - b = (A.length + B.length - (a + 1) - b) + 1 by omega]
        conv => lhs; unfold tchF
        rw [eA, eB]
        dsimp only
        rw [hρ2]
        rw [show A.length + B.length - a - (b + 1) = A.length + B.length - (a + 1) - b by omega]
      have rest : ∀ (G2 : List Nat) (H2 : Heap), G2.length = F.length → Fst G2 ρ2 → Hs H2 (Lst fv 1 G2.length (iV G2) :: R) →
          wpC (Call P) (.seq (.reg true [0, 1, 2, 3, 4, 10, 11, 49] [⟨some 39, .mv (.t 1), none, 0, []⟩,
    ⟨some 40, .mv (.t 10), none, 1, []⟩,
    ⟨some 41, .iad none 2 (.t 39) (.t 40), none, 2, []⟩,
    ⟨some 42, .fad 1 (.t 41), none, 3, []⟩,
    ⟨some 43, .load none (.t 42), none, 4, []⟩,
    ⟨some 44, .mv (.t 2), none, 5, []⟩,
    ⟨some 45, .mv (.t 11), none, 6, []⟩,
    ⟨some 46, .iad none 2 (.t 44) (.t 45), none, 7, []⟩,
    ⟨some 47, .fad 1 (.t 46), none, 8, []⟩,
    ⟨some 48, .load none (.t 47), none, 9, []⟩,
    ⟨some 49, .bin .leq .num (.t 43) (.t 48), none, 10, []⟩])
  (.cond (.t 49) (.reg false [0, 1, 2, 3, 4, 10, 11] [⟨some 50, .mv (.t 10), none, 0, []⟩,
    ⟨some 51, .bin .add .num (.t 50) (.c (.int .i64 1)), none, 0, []⟩,
    ⟨some 10, .mv (.t 51), none, 0, []⟩])
  (.reg false [0, 1, 2, 3, 4, 10, 11] [⟨some 52, .mv (.t 11), none, 0, []⟩,
    ⟨some 53, .bin .add .num (.t 52) (.c (.int .i64 1)), none, 0, []⟩,
    ⟨some 11, .mv (.t 53), none, 0, []⟩]))) (blk 1 K)
          ⟨[(0, fv), (1, .sl (some (xa, oa)) A.length ca 2), (2, .sl (some (xb, ob)) B.length cb 2), (3, .int .i64 (i : Nat)), (4, .int .i64 (k : Nat)), (10, .int .i64 (a : Nat)), (11, .int .i64 (b : Nat))], []⟩ H2 := by
        intro G2 H2 q1 q2 q3
        obtain ⟨xa', oa', c1', ev, ra1, ra2⟩ := rc_rd (hA _ q3.tail) ka
        cases ev
        obtain ⟨xb', ob', c2', ev, rb1, rb2⟩ := rc_rd (hB _ q3.tail) kb
        cases ev
        by_cases le : A[a].2 ≤ B[b].2
        · rw [if_pos le] at eF
          simp -implicitDefEqProofs -dsimp (disch := omega) only [go_sem, Nat.reduceEqDiff, ↓reduceIte, Nat.reduceAdd, Nat.reduceMul, Nat.reduceSub, Nat.reduceLT, Nat.reduceLeDiff, Int.reduceLT, Int.reduceLE, Int.reduceEq, Int.reduceNeg, Int.reduceAdd, Int.reduceMul, Int.reduceSub, Int.reduceToNat, reduceCtorEq, dec_t, dec_f, ra2, rb2, Int.toNat_natCast, w64, cadd1]
          exact hn ⟨a + 1, b, _, G2⟩ H2 (by dsimp only; omega) ⟨by dsimp only; omega, hb, eF.symm.trans ht, q1, q2, q3⟩
        · rw [if_neg le] at eF
          simp -implicitDefEqProofs -dsimp (disch := omega) only [go_sem, Nat.reduceEqDiff, ↓reduceIte, Nat.reduceAdd, Nat.reduceMul, Nat.reduceSub, Nat.reduceLT, Nat.reduceLeDiff, Int.reduceLT, Int.reduceLE, Int.reduceEq, Int.reduceNeg, Int.reduceAdd, Int.reduceMul, Int.reduceSub, Int.reduceToNat, reduceCtorEq, dec_t, dec_f, ra2, rb2, Int.toNat_natCast, w64, cadd1]
          exact hn ⟨a, b + 1, _, G2⟩ H2 (by dsimp only; omega) ⟨ha, by dsimp only; omega, eF.symm.trans ht, q1, q2, q3⟩
      simp -implicitDefEqProofs -dsimp (disch := omega) only [go_sem, Nat.reduceEqDiff, ↓reduceIte, Nat.reduceAdd, Nat.reduceMul, Nat.reduceSub, Nat.reduceLT, Nat.reduceLeDiff, Int.reduceLT, Int.reduceLE, Int.reduceEq, Int.reduceNeg, Int.reduceAdd, Int.reduceMul, Int.reduceSub, Int.reduceToNat, reduceCtorEq, dec_t, dec_f, comps_touching_l0, ra1, rb1, Int.toNat_natCast]
      refine touch_ct hu h1 fun H2 h2 => ?_
      by_cases tp : touchP A[a] B[b]
      · rw [decide_eq_true tp]
        rw [if_pos tp] at hρ2
        subst hρ2
        have e1 : (i : Int) + (a : Int) = ((i + a : Nat) : Int) := (Int.natCast_add _ _).symm
        have e2 : (k : Int) + (b : Int) = ((k + b : Nat) : Int) := (Int.natCast_add _ _).symm
        simp -implicitDefEqProofs -dsimp (disch := omega) only [go_sem, Nat.reduceEqDiff, ↓reduceIte, Nat.reduceAdd, Nat.reduceMul, Nat.reduceSub, Nat.reduceLT, Nat.reduceLeDiff, Int.reduceLT, Int.reduceLE, Int.reduceEq, Int.reduceNeg, Int.reduceAdd, Int.reduceMul, Int.reduceSub, Int.reduceToNat, reduceCtorEq, dec_t, dec_f, e1, e2, w64]
        refine join_ct hp h2 hf (by omega) (by omega) fun G2 H3 q1 q2 q3 => ?_
        have := rest G2 H3 (by omega) q2 q3
        simp -implicitDefEqProofs -dsimp (disch := omega) only [go_sem, Nat.reduceEqDiff, ↓reduceIte, Nat.reduceAdd, Nat.reduceMul, Nat.reduceSub, Nat.reduceLT, Nat.reduceLeDiff, Int.reduceLT, Int.reduceLE, Int.reduceEq, Int.reduceNeg, Int.reduceAdd, Int.reduceMul, Int.reduceSub, Int.reduceToNat, reduceCtorEq, dec_t, dec_f, ]
        simp -implicitDefEqProofs -dsimp (disch := omega) only [go_sem, Nat.reduceEqDiff, ↓reduceIte, Nat.reduceAdd, Nat.reduceMul, Nat.reduceSub, Nat.reduceLT, Nat.reduceLeDiff, Int.reduceLT, Int.reduceLE, Int.reduceEq, Int.reduceNeg, Int.reduceAdd, Int.reduceMul, Int.reduceSub, Int.reduceToNat, reduceCtorEq, dec_t, dec_f, ] at this
        exact this
      · rw [decide_eq_false tp]
        rw [if_neg tp] at hρ2
        subst hρ2
        have := rest G H2 hl1 hf h2
        simp -implicitDefEqProofs -dsimp (disch := omega) only [go_sem, Nat.reduceEqDiff, ↓reduceIte, Nat.reduceAdd, Nat.reduceMul, Nat.reduceSub, Nat.reduceLT, Nat.reduceLeDiff, Int.reduceLT, Int.reduceLE, Int.reduceEq, Int.reduceNeg, Int.reduceAdd, Int.reduceMul, Int.reduceSub, Int.reduceToNat, reduceCtorEq, dec_t, dec_f, ]
        simp -implicitDefEqProofs -dsimp (disch := omega) only [go_sem, Nat.reduceEqDiff, ↓reduceIte, Nat.reduceAdd, Nat.reduceMul, Nat.reduceSub, Nat.reduceLT, Nat.reduceLeDiff, Int.reduceLT, Int.reduceLE, Int.reduceEq, Int.reduceNeg, Int.reduceAdd, Int.reduceMul, Int.reduceSub, Int.reduceToNat, reduceCtorEq, dec_t, dec_f, ] at this
        exact this
    · have : b = B.length := by omega
      subst this
      rw [tchF_end (.inr (Nat.le_refl _))] at ht
      simp -implicitDefEqProofs -dsimp (disch := omega) only [go_sem, Nat.reduceEqDiff, ↓reduceIte, Nat.reduceAdd, Nat.reduceMul, Nat.reduceSub, Nat.reduceLT, Nat.reduceLeDiff, Int.reduceLT, Int.reduceLE, Int.reduceEq, Int.reduceNeg, Int.reduceAdd, Int.reduceMul, Int.reduceSub, Int.reduceToNat, reduceCtorEq, dec_t, dec_f, comps_touching_l0]
      rw [hx]
      simp -implicitDefEqProofs -dsimp (disch := omega) only [go_sem, Nat.reduceEqDiff, ↓reduceIte, Nat.reduceAdd, Nat.reduceMul, Nat.reduceSub, Nat.reduceLT, Nat.reduceLeDiff, Int.reduceLT, Int.reduceLE, Int.reduceEq, Int.reduceNeg, Int.reduceAdd, Int.reduceMul, Int.reduceSub, Int.reduceToNat, reduceCtorEq, dec_t, dec_f, ]
      exact hQ G H1 hl1 (by rw [← ht]; exact hf) h1
  · have : a = A.length := by omega
    subst this
    rw [tchF_end (.inl (Nat.le_refl _))] at ht
    simp -implicitDefEqProofs -dsimp (disch := omega) only [go_sem, Nat.reduceEqDiff, ↓reduceIte, Nat.reduceAdd, Nat.reduceMul, Nat.reduceSub, Nat.reduceLT, Nat.reduceLeDiff, Int.reduceLT, Int.reduceLE, Int.reduceEq, Int.reduceNeg, Int.reduceAdd, Int.reduceMul, Int.reduceSub, Int.reduceToNat, reduceCtorEq, dec_t, dec_f, comps_touching_l0]
    rw [hx]
    simp -implicitDefEqProofs -dsimp (disch := omega) only [go_sem, Nat.reduceEqDiff, ↓reduceIte, Nat.reduceAdd, Nat.reduceMul, Nat.reduceSub, Nat.reduceLT, Nat.reduceLeDiff, Int.reduceLT, Int.reduceLE, Int.reduceEq, Int.reduceNeg, Int.reduceAdd, Int.reduceMul, Int.reduceSub, Int.reduceToNat, reduceCtorEq, dec_t, dec_f, ]
    exact hQ G H1 hl1 (by rw [← ht]; exact hf) h1
end
end Go.Ab
