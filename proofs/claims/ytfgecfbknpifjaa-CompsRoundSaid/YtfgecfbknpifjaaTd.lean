/- All rows' runs are placed and put together: the first loop of comps.Of. Conditions: none. -/
import Derived.Test.YtfgecfbknpifjaaTc
set_option linter.all false
namespace Go.Ab
/-- The runs of the first y rows. -/
def allPl (rows : List (List (Int × Int))) : Nat → List Plc
  | 0 => []
  | y + 1 => allPl rows y ++ plRow y (rows.getD y [])
/-- What stands for each, behind the first y rows. -/
def rhoF (rows : List (List (Int × Int))) : Nat → (Nat → Nat)
  | 0 => fun i => i
  | y + 1 => if 0 < y then tch (rows.getD (y - 1) []) (rows.getD y []) ((allPl rows y).length - (rows.getD (y - 1) []).length) (allPl rows y).length (rhoF rows y) else rhoF rows y
theorem plRow_len (y : Nat) (l : List (Int × Int)) : (plRow y l).length = l.length := by simp [plRow]
theorem allPl_succ (rows : List (List (Int × Int))) (y : Nat) : (allPl rows (y + 1)).length = (allPl rows y).length + (rows.getD y []).length := by rw [allPl, List.length_append, plRow_len]
theorem allPl_mono (rows : List (List (Int × Int))) {y : Nat} : ∀ {n : Nat}, y ≤ n → (allPl rows y).length ≤ (allPl rows n).length
  | 0, h => by rw [show y = 0 by omega]; exact Nat.le_refl _
  | n + 1, h => by
    by_cases e : y = n + 1
    · rw [e]; exact Nat.le_refl _
    · have := allPl_mono rows (n := n) (show y ≤ n by omega)
      rw [allPl_succ]; omega
section
variable {P : Prog} {H : Heap} {R : List As} {Q : Post}
structure RsS where
  y : Nat
  fv : V
  av : V
  F : List Nat
set_option maxHeartbeats 1000000 in
theorem of_rows (hu : HasRu P) (hp : HasCo P) {t : Tag Q} {s : Tag comps_Of_l4} {rv : V} {rows : List (List (Int × Int))} (hr : RRd R rv rows) (hl : (allPl rows rows.length).length ≤ 1048576) (hn32 : rows.length ≤ 1048576) (hs : Hs H R)
    (hK : ∀ fv av F H' ex, Fst F (rhoF rows rows.length) → F.length = (allPl rows rows.length).length → Hs H' (Lst fv 1 F.length (iV F) :: Lst av 3 (allPl rows rows.length).length (pcells (allPl rows rows.length)) :: R) →
      Q (.exit 0) ⟨(4, rv) :: (6, fv) :: (7, av) :: ex, []⟩ H') :
    loopL (Call P) [4, 6, 7, 36, 37, 38] comps_Of_l4 Q t s ⟨[(4, rv), (6, .sl none 0 0 0), (7, .sl none 0 0 0), (36, rv), (37, .int .i64 (rows.length : Nat)), (38, .int .i64 ((0 : Nat) : Int))], []⟩ H := by
  obtain ⟨vals, hr⟩ := hr
  have h0 : Hs H (Lst (.sl none 0 0 0) 1 0 (iV []) :: Lst (.sl none 0 0 0) 3 0 (pcells []) :: R) := (hs.lst (Same.refl _ _) (own_nil _ 3) fun _ h => h.elim).lst (Same.refl _ _) (own_nil _ 1) fun _ h => h.elim
  obtain ⟨rp, rc, re, rfl⟩ := (hr H hs).1.shape
  refine loop_dec (σ := RsS) (fun x => rows.length - x.y) (fun x => ⟨[(4, .sl rp rows.length rc re), (6, x.fv), (7, x.av), (36, .sl rp rows.length rc re), (37, .int .i64 (rows.length : Nat)), (38, .int .i64 (x.y : Nat))], []⟩)
    (fun x H => x.y ≤ rows.length ∧ x.F.length = (allPl rows x.y).length ∧ Fst x.F (rhoF rows x.y) ∧ Hs H (Lst x.fv 1 x.F.length (iV x.F) :: Lst x.av 3 (allPl rows x.y).length (pcells (allPl rows x.y)) :: R))
    (fun x H1 K ⟨hy, hl1, hf, h1⟩ hn hx hrr => ?_) ⟨0, .sl none 0 0 0, .sl none 0 0 0, []⟩ H ⟨Nat.zero_le _, rfl, Fst.nil, h0⟩
  obtain ⟨y, fv, av, F⟩ := x
  dsimp only at hy hl1 hf h1 hn
  by_cases hlt : y < rows.length
  · obtain ⟨b, hb⟩ : ∃ B, rows[y]? = some B := ⟨_, List.getElem?_eq_getElem hlt⟩
    have eD : rows.getD y [] = b := by rw [List.getD_eq_getElem?_getD, hb]; rfl
    have hm := allPl_mono rows (show y + 1 ≤ rows.length from hlt)
    rw [allPl_succ, eD] at hm
    have rdrow : ∀ {H' : Heap} {i : Nat} {l : List (Int × Int)}, Hs H' R → rows[i]? = some l → ∃ xb xo u, rp = some (xb, xo) ∧ rd H' none xb (xo + i) = some u ∧ vals[i]? = some u ∧ re = 1 := fun {H' i l} h e => by
      have hi := (List.getElem?_eq_some_iff.1 e).1
      obtain ⟨u, hu1, _⟩ := (hr H' h).2 i l e
      obtain ⟨b', o', c', hv⟩ := (hr H' h).1.at0 (by omega)
      cases hv
      exact ⟨_, _, u, rfl, by rw [(hr H' h).1.rd1 hi]; exact hu1, hu1, rfl⟩
    obtain ⟨xb, xo, row, rfl, r1, hv1, rfl⟩ := rdrow h1.tail.tail hb
    have hB : ∀ H', Hs H' R → Arr H' row 2 b.length (rcells b) := fun H' h => by
      obtain ⟨u, hu1, hu2⟩ := (hr H' h).2 y b hb
      rw [hv1] at hu1; cases hu1; exact hu2
    obtain ⟨pp, pc, pe, rfl⟩ := (hB H1 h1.tail.tail).shape
    obtain ⟨ap, ac, ae, rfl⟩ := h1.p1.own.arr.shape
    simp -implicitDefEqProofs -dsimp (disch := omega) only [go_sem, Nat.reduceEqDiff, ↓reduceIte, Nat.reduceAdd, Nat.reduceMul, Nat.reduceSub, Nat.reduceLT, Nat.reduceLeDiff, Int.reduceLT, Int.reduceLE, Int.reduceEq, Int.reduceNeg, Int.reduceAdd, Int.reduceMul, Int.reduceSub, Int.reduceToNat, reduceCtorEq, dec_t, dec_f, comps_Of_l4, Int.toNat_natCast, Nat.mul_one, r1]
    refine of_row hB hf hl1 rfl (by omega) h1 fun fv2 av2 F2 H2 ex hf2 hl2 h2 => ?_
    have e3 : allPl rows (y + 1) = allPl rows y ++ plRow y b := by rw [allPl, eD]
    rw [← e3] at h2
    by_cases hy0 : 0 < y
    · obtain ⟨A, hA⟩ : ∃ A, rows[y - 1]? = some A := ⟨_, List.getElem?_eq_getElem (by omega)⟩
      have eA : rows.getD (y - 1) [] = A := by rw [List.getD_eq_getElem?_getD, hA]; rfl
      obtain ⟨xb', xo', abv, ev, r2, hv2, _⟩ := rdrow h2.tail.tail hA
      cases ev
      have hAA : ∀ H', Hs H' R → Arr H' abv 2 A.length (rcells A) := fun H' h => by
        obtain ⟨u, hu1, hu2⟩ := (hr H' h).2 (y - 1) A hA
        rw [hv2] at hu1; cases hu1; exact hu2
      obtain ⟨qp, qc, qe, rfl⟩ := (hAA H2 h2.tail.tail).shape
      have hAl : A.length ≤ (allPl rows y).length := by
        have := allPl_succ rows (y - 1)
        rw [show y - 1 + 1 = y by omega, eA] at this; omega
      have e4 : ((y : Nat) : Int) - 1 = ((y - 1 : Nat) : Int) := by omega
      have e5 : (((allPl rows y).length : Nat) : Int) - (A.length : Nat) = (((allPl rows y).length - A.length : Nat) : Int) := by omega
      simp -implicitDefEqProofs -dsimp (disch := omega) only [go_sem, Nat.reduceEqDiff, ↓reduceIte, Nat.reduceAdd, Nat.reduceMul, Nat.reduceSub, Nat.reduceLT, Nat.reduceLeDiff, Int.reduceLT, Int.reduceLE, Int.reduceEq, Int.reduceNeg, Int.reduceAdd, Int.reduceMul, Int.reduceSub, Int.reduceToNat, reduceCtorEq, dec_t, dec_f, w64, e4, Int.toNat_natCast, Nat.mul_one, r2, e5]
      refine touching_ct hu hp (R := Lst av2 3 (allPl rows (y + 1)).length (pcells (allPl rows (y + 1))) :: R) h2 hf2 (fun H' h => hAA H' h.tail) (fun H' h => hB H' h.tail) (by omega) (by omega) (by omega) fun F3 H3 q1 q2 q3 => ?_
      simp -implicitDefEqProofs -dsimp (disch := omega) only [go_sem, Nat.reduceEqDiff, ↓reduceIte, Nat.reduceAdd, Nat.reduceMul, Nat.reduceSub, Nat.reduceLT, Nat.reduceLeDiff, Int.reduceLT, Int.reduceLE, Int.reduceEq, Int.reduceNeg, Int.reduceAdd, Int.reduceMul, Int.reduceSub, Int.reduceToNat, reduceCtorEq, dec_t, dec_f, w64, cadd1]
      refine hn ⟨y + 1, fv2, av2, F3⟩ H3 (by dsimp only; omega) ⟨hlt, by dsimp only; rw [e3, List.length_append, plRow_len]; omega, ?_, q3⟩
      dsimp only
      rw [rhoF, if_pos hy0, eD, eA]; exact q2
    · have : y = 0 := by omega
      subst this
      simp -implicitDefEqProofs -dsimp (disch := omega) only [go_sem, Nat.reduceEqDiff, ↓reduceIte, Nat.reduceAdd, Nat.reduceMul, Nat.reduceSub, Nat.reduceLT, Nat.reduceLeDiff, Int.reduceLT, Int.reduceLE, Int.reduceEq, Int.reduceNeg, Int.reduceAdd, Int.reduceMul, Int.reduceSub, Int.reduceToNat, reduceCtorEq, dec_t, dec_f, w64, cadd1]
      refine hn ⟨0 + 1, fv2, av2, F2⟩ H2 (by dsimp only; omega) ⟨hlt, by dsimp only; rw [e3, List.length_append, plRow_len]; omega, ?_, h2⟩
      dsimp only
      rw [rhoF, if_neg (by omega)]; exact hf2
  · obtain rfl : y = rows.length := by omega
    simp -implicitDefEqProofs -dsimp (disch := omega) only [go_sem, Nat.reduceEqDiff, ↓reduceIte, Nat.reduceAdd, Nat.reduceMul, Nat.reduceSub, Nat.reduceLT, Nat.reduceLeDiff, Int.reduceLT, Int.reduceLE, Int.reduceEq, Int.reduceNeg, Int.reduceAdd, Int.reduceMul, Int.reduceSub, Int.reduceToNat, reduceCtorEq, dec_t, dec_f, comps_Of_l4]
    rw [hx]
    exact hK fv av F H1 _ hf hl1 h1
end
end Go.Ab
