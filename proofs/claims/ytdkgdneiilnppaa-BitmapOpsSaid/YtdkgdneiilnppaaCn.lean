/- Mirror, Turn: pixels that stand elsewhere. Conditions: none. -/
import Derived.Test.YtdkgdneiilnppaaCm
set_option linter.all false
namespace Go.Ab

theorem fc2 (fr : Fr) (t u v : Nat) (i j g : Nat) (k1 k2 : IntKind) (c : List V) (a b : Int) (e1 : fr.get t = some (.fn g [] c)) (e2 : fr.get u = some (.int k1 a)) (e3 : fr.get v = some (.int k2 b)) : callee fr (.t t) [.t u, .t v] = some (g, [.int k1 a, .int k2 b] ++ c) := by
  simp [callee, opd, opds, e1, e2, e3]

section
variable {P : Prog} {H : Heap} {R : List As} {Q : Out → Heap → Prop} {m w h : Nat} {p : Nat → Nat → Bool}

/-- The rows up to y, of row y the pixels up to x. -/
def turP (q : Nat → Nat → Bool) (w y x : Nat) : Nat → Nat → Bool := fun i j => decide (j < y ∨ (j = y ∧ i < x)) && q i j
def TuF (m w' h' c y : Nat) (f : V) (mid : List (Nat × V)) : Fr := ⟨[(0, .ptr (some (m, 0))), (1, .int .i64 w'), (3, f), (9, .ptr (some (c, 0)))] ++ mid, []⟩
def TuI (m w h : Nat) (p : Nat → Nat → Bool) (w' h' c : Nat) (f : V) (q : Nat → Nat → Bool) (R : List As) (k : Nat) (fr : Fr) (H : Heap) : Prop :=
  ∃ y : Nat, k = h' - y ∧ y ≤ h' ∧ fr = TuF m w' h' c y f [(25, .int .i64 h'), (26, .int .i64 y)] ∧ Hs H (MapA c w' h' (turP q w' y 0) :: MapA m w h p :: R)
def TuJ (m w h : Nat) (p : Nat → Nat → Bool) (w' h' c : Nat) (f : V) (q : Nat → Nat → Bool) (R : List As) (y : Nat) (k : Nat) (fr : Fr) (H : Heap) : Prop :=
  ∃ x : Nat, k = w' - x ∧ x ≤ w' ∧ fr = TuF m w' h' c y f [(10, .int .i64 y), (25, .int .i64 h'), (26, .int .i64 y), (29, .int .i64 w'), (30, .int .i64 x)] ∧ Hs H (MapA c w' h' (turP q w' y x) :: MapA m w h p :: R)

theorem turned_ct (hp : HasBm P) (hs : Hs H (MapA m w h p :: R)) {w' h' g : Nat} {cs : List V} {fx fy : Nat → Nat → Nat} (hw : 1 ≤ w' ∧ 1 ≤ h' ∧ w' * h' ≤ 1048576)
    (hf : ∀ i j H' Q', i < w' → j < h' → Hs H' (MapA m w h p :: R) → Q' (.ret (.tup [.int .i64 (fx i j), .int .i64 (fy i j)])) H' → Call P g ([.int .i64 i, .int .i64 j] ++ cs) H' Q')
    (hr : ∀ i j, i < w' → j < h' → fx i j < w ∧ fy i j < h)
    (hQ : ∀ c H', Hs H' (MapA c w' h' (fun i j => p (fx i j) (fy i j)) :: MapA m w h p :: R) → Q (.ret (.ptr (some (c, 0)))) H') :
    Call P 67 [.ptr (some (m, 0)), .int .i64 w', .int .i64 h', .fn g [] cs] H Q := by
  obtain ⟨z1, z2, z3⟩ := hw
  have kw := wds_le z3 z1
  have z4 : w' ≤ 1048576 := by have := Nat.le_mul_of_pos_right w' (show 0 < h' by omega); omega
  have z5 : h' ≤ 1048576 := by have := Nat.le_mul_of_pos_left h' (show 0 < w' by omega); omega
  have ew : ((w' : Int) + 63) / 64 = ((wds w' : Nat) : Int) := by unfold wds; omega
  have em : (h' : Int) * ((wds w' : Nat) : Int) = ((h' * wds w' : Nat) : Int) := (Int.natCast_mul _ _).symm
  have hwl : wds w' ≤ 1048576 := by unfold wds; omega
  refine call_of hp.h_bitmap_Map_turned rfl ?_
  simp -implicitDefEqProofs -dsimp (disch := omega) only [go_sem, Nat.reduceEqDiff, ↓reduceIte, Nat.reduceAdd, Nat.reduceMul, Nat.reduceSub, Nat.reduceLT, Nat.reduceLeDiff, Int.reduceLT, Int.reduceLE, Int.reduceEq, Int.reduceNeg, Int.reduceAdd, Int.reduceMul, Int.reduceSub, Int.reduceToNat, reduceCtorEq, dec_t, dec_f, w64, tdivN, ew, em, Int.toNat_natCast, reps_u64]
  have g1 : Hs (H.new (.cells (u64s (List.replicate (h' * wds w') 0)) true)) (Cel H.next (u64s (List.replicate (h' * wds w') 0)) :: MapA m w h p :: R) := hs.alloc
  have g2 := g1.alloc (l := mapC w' h' H.next)
  rw [← Wds_white w' h'] at g2
  have g3 := map_close (g2.p1.p1) ⟨z1, z2, z3⟩
  rw [next_new] at *
  unfold mapC at g3
  rw [Wds_white] at g3
  generalize (H.new (.cells (u64s (List.replicate (h' * wds w') 0)) true)).new (.cells [.int .i64 w', .int .i64 h', .int .i64 (wds w'), .sl (some (H.next, 0)) (h' * wds w') (h' * wds w') 1] true) = H1 at *
  generalize H.next + 1 = c at *
  generalize hq : (fun i j => p (fx i j) (fy i j)) = q at *
  have hqv : ∀ i j, q i j = p (fx i j) (fy i j) := fun i j => by rw [← hq]
  refine loop_inv (TuI m w h p w' h' c (.fn g [] cs) q R) ?_ h' _ _ ⟨0, by omega, by omega, rfl, g3.mapc fun i j _ _ => by unfold turP; rw [decide_eq_false (by omega)]; rfl⟩
  rintro k fr H2 ⟨y, hk, hy, rfl, h2⟩
  generalize hK : rnd (TuI m w h p w' h' c (.fn g [] cs) q R) k = K
  by_cases hyy : y < h'
  · simp -implicitDefEqProofs -dsimp (disch := omega) only [go_sem, Nat.reduceEqDiff, ↓reduceIte, Nat.reduceAdd, Nat.reduceMul, Nat.reduceSub, Nat.reduceLT, Nat.reduceLeDiff, Int.reduceLT, Int.reduceLE, Int.reduceEq, Int.reduceNeg, Int.reduceAdd, Int.reduceMul, Int.reduceSub, Int.reduceToNat, reduceCtorEq, dec_t, dec_f, TuF, bitmap_Map_turned_l0]
    refine loop_inv (TuJ m w h p w' h' c (.fn g [] cs) q R y) ?_ w' _ _ ⟨0, by omega, by omega, rfl, h2⟩
    rintro k2 fr2 H3 ⟨x, hk2, hx, rfl, h3⟩
    generalize hK2 : rnd (TuJ m w h p w' h' c (.fn g [] cs) q R y) k2 = K2
    by_cases hxx : x < w'
    · simp -implicitDefEqProofs -dsimp (disch := omega) only [go_sem, Nat.reduceEqDiff, ↓reduceIte, Nat.reduceAdd, Nat.reduceMul, Nat.reduceSub, Nat.reduceLT, Nat.reduceLeDiff, Int.reduceLT, Int.reduceLE, Int.reduceEq, Int.reduceNeg, Int.reduceAdd, Int.reduceMul, Int.reduceSub, Int.reduceToNat, reduceCtorEq, dec_t, dec_f, TuF, bitmap_Map_turned_l1]
      refine hf x y H3 _ hxx hyy h3.tail ?_
      obtain ⟨r1, r2⟩ := hr x y hxx hyy
      simp -implicitDefEqProofs -dsimp (disch := omega) only [go_sem, Nat.reduceEqDiff, ↓reduceIte, Nat.reduceAdd, Nat.reduceMul, Nat.reduceSub, Nat.reduceLT, Nat.reduceLeDiff, Int.reduceLT, Int.reduceLE, Int.reduceEq, Int.reduceNeg, Int.reduceAdd, Int.reduceMul, Int.reduceSub, Int.reduceToNat, reduceCtorEq, dec_t, dec_f, ]
      refine get_ct hp h3.p1 ?_
      have hv : getV w h p (fx x y : Nat) (fy x y : Nat) = (q x y).toNat := by unfold getV; rw [if_pos (by omega), Int.toNat_natCast, Int.toNat_natCast, hqv]
      rw [hv]
      cases hb : q x y with
      | true =>
        simp -implicitDefEqProofs -dsimp (disch := omega) only [go_sem, Nat.reduceEqDiff, ↓reduceIte, Nat.reduceAdd, Nat.reduceMul, Nat.reduceSub, Nat.reduceLT, Nat.reduceLeDiff, Int.reduceLT, Int.reduceLE, Int.reduceEq, Int.reduceNeg, Int.reduceAdd, Int.reduceMul, Int.reduceSub, Int.reduceToNat, reduceCtorEq, dec_t, dec_f, Bool.toNat_true]
        refine put_ct hp (bit := true) h3 hxx hyy fun H4 h4 => ?_
        simp -implicitDefEqProofs -dsimp (disch := omega) only [go_sem, Nat.reduceEqDiff, ↓reduceIte, Nat.reduceAdd, Nat.reduceMul, Nat.reduceSub, Nat.reduceLT, Nat.reduceLeDiff, Int.reduceLT, Int.reduceLE, Int.reduceEq, Int.reduceNeg, Int.reduceAdd, Int.reduceMul, Int.reduceSub, Int.reduceToNat, reduceCtorEq, dec_t, dec_f, w64, cadd1]
        subst hK2
        refine rnd_n (w' - (x + 1)) (by omega) ⟨x + 1, rfl, by omega, rfl, h4.mapc fun i j hi hj => ?_⟩
        unfold updP turP
        by_cases e : i = x ∧ j = y
        · obtain ⟨rfl, rfl⟩ := e
          rw [if_pos ⟨rfl, rfl⟩, hb, decide_eq_true (by omega)]; rfl
        · rw [if_neg e]; congr 1; exact decide_eq_decide.2 (by omega)
      | false =>
        simp -implicitDefEqProofs -dsimp (disch := omega) only [go_sem, Nat.reduceEqDiff, ↓reduceIte, Nat.reduceAdd, Nat.reduceMul, Nat.reduceSub, Nat.reduceLT, Nat.reduceLeDiff, Int.reduceLT, Int.reduceLE, Int.reduceEq, Int.reduceNeg, Int.reduceAdd, Int.reduceMul, Int.reduceSub, Int.reduceToNat, reduceCtorEq, dec_t, dec_f, Bool.toNat_false, w64, cadd1]
        subst hK2
        refine rnd_n (w' - (x + 1)) (by omega) ⟨x + 1, rfl, by omega, rfl, h3.mapc fun i j hi hj => ?_⟩
        unfold turP
        by_cases e : i = x ∧ j = y
        · obtain ⟨rfl, rfl⟩ := e
          rw [hb, Bool.and_false, Bool.and_false]
        · congr 1; exact decide_eq_decide.2 (by omega)
    · obtain rfl : x = w' := by omega
      simp -implicitDefEqProofs -dsimp (disch := omega) only [go_sem, Nat.reduceEqDiff, ↓reduceIte, Nat.reduceAdd, Nat.reduceMul, Nat.reduceSub, Nat.reduceLT, Nat.reduceLeDiff, Int.reduceLT, Int.reduceLE, Int.reduceEq, Int.reduceNeg, Int.reduceAdd, Int.reduceMul, Int.reduceSub, Int.reduceToNat, reduceCtorEq, dec_t, dec_f, TuF, bitmap_Map_turned_l1]
      subst hK2
      simp -implicitDefEqProofs -dsimp (disch := omega) only [go_sem, Nat.reduceEqDiff, ↓reduceIte, Nat.reduceAdd, Nat.reduceMul, Nat.reduceSub, Nat.reduceLT, Nat.reduceLeDiff, Int.reduceLT, Int.reduceLE, Int.reduceEq, Int.reduceNeg, Int.reduceAdd, Int.reduceMul, Int.reduceSub, Int.reduceToNat, reduceCtorEq, dec_t, dec_f, w64, cadd1]
      subst hK
      refine rnd_n (h' - (y + 1)) (by omega) ⟨y + 1, rfl, by omega, rfl, h3.mapc fun i j hi hj => ?_⟩
      unfold turP
      congr 1
      exact decide_eq_decide.2 (by omega)
  · obtain rfl : y = h' := by omega
    simp -implicitDefEqProofs -dsimp (disch := omega) only [go_sem, Nat.reduceEqDiff, ↓reduceIte, Nat.reduceAdd, Nat.reduceMul, Nat.reduceSub, Nat.reduceLT, Nat.reduceLeDiff, Int.reduceLT, Int.reduceLE, Int.reduceEq, Int.reduceNeg, Int.reduceAdd, Int.reduceMul, Int.reduceSub, Int.reduceToNat, reduceCtorEq, dec_t, dec_f, TuF, bitmap_Map_turned_l0]
    subst hK
    simp -implicitDefEqProofs -dsimp (disch := omega) only [go_sem, Nat.reduceEqDiff, ↓reduceIte, Nat.reduceAdd, Nat.reduceMul, Nat.reduceSub, Nat.reduceLT, Nat.reduceLeDiff, Int.reduceLT, Int.reduceLE, Int.reduceEq, Int.reduceNeg, Int.reduceAdd, Int.reduceMul, Int.reduceSub, Int.reduceToNat, reduceCtorEq, dec_t, dec_f, ]
    refine hQ c H2 (h2.mapc fun i j hi hj => ?_)
    unfold turP
    rw [decide_eq_true (Or.inl hj)]; rfl

theorem mirror_ct (hp : HasBm P) (hs : Hs H (MapA m w h p :: R)) (hQ : ∀ c H', Hs H' (MapA c w h (fun i j => p (w - 1 - i) j) :: MapA m w h p :: R) → Q (.ret (.ptr (some (c, 0)))) H') : Call P 69 [.ptr (some (m, 0))] H Q := by
  obtain ⟨z1, z2, z3, z4, z5⟩ := mapSz hs
  refine call_of hp.h_bitmap_Map_Mirror rfl ?_
  have hlt : m < H.next := by obtain ⟨F, v, hF, k⟩ := hs.head; exact k.lt
  have hne : ¬ m = H.next := by omega
  obtain ⟨b, k⟩ := mapV hs
  simp -implicitDefEqProofs -dsimp (disch := omega) only [go_sem, Nat.reduceEqDiff, ↓reduceIte, Nat.reduceAdd, Nat.reduceMul, Nat.reduceSub, Nat.reduceLT, Nat.reduceLeDiff, Int.reduceLT, Int.reduceLE, Int.reduceEq, Int.reduceNeg, Int.reduceAdd, Int.reduceMul, Int.reduceSub, Int.reduceToNat, reduceCtorEq, dec_t, dec_f, if_neg hne, rd_s k.cell]
  have g1 := hs.alloc (l := [.ptr (some (m, 0))])
  generalize H.new (.cells [.ptr (some (m, 0))] true) = H1 at *
  generalize H.next = bx at *
  refine turned_ct hp g1.p1 (fx := fun i _ => w - 1 - i) (fy := fun _ j => j) ⟨z1, z2, z3⟩ (fun i j H' Q' hi hj h' hq => ?_) (fun i j hi hj => by omega) fun c H2 h2 => ?_
  · obtain ⟨b', k'⟩ := mapV h'
    refine call_of hp.h_bitmap_Map_Mirror_1 rfl ?_
    have e : (w : Int) - 1 - (i : Int) = ((w - 1 - i : Nat) : Int) := by omega
    simp -implicitDefEqProofs -dsimp (disch := omega) only [go_sem, Nat.reduceEqDiff, ↓reduceIte, Nat.reduceAdd, Nat.reduceMul, Nat.reduceSub, Nat.reduceLT, Nat.reduceLeDiff, Int.reduceLT, Int.reduceLE, Int.reduceEq, Int.reduceNeg, Int.reduceAdd, Int.reduceMul, Int.reduceSub, Int.reduceToNat, reduceCtorEq, dec_t, dec_f, rd_s h'.p1.cel, rd_s k'.cell, w64, e]
    exact hq
  · simp -implicitDefEqProofs -dsimp (disch := omega) only [go_sem, Nat.reduceEqDiff, ↓reduceIte, Nat.reduceAdd, Nat.reduceMul, Nat.reduceSub, Nat.reduceLT, Nat.reduceLeDiff, Int.reduceLT, Int.reduceLE, Int.reduceEq, Int.reduceNeg, Int.reduceAdd, Int.reduceMul, Int.reduceSub, Int.reduceToNat, reduceCtorEq, dec_t, dec_f, ]
    exact hQ c H2 h2.p2.tail
theorem turn_ct (hp : HasBm P) (hs : Hs H (MapA m w h p :: R)) (hQ : ∀ c H', Hs H' (MapA c h w (fun i j => p j (h - 1 - i)) :: MapA m w h p :: R) → Q (.ret (.ptr (some (c, 0)))) H') : Call P 71 [.ptr (some (m, 0))] H Q := by
  obtain ⟨z1, z2, z3, z4, z5⟩ := mapSz hs
  refine call_of hp.h_bitmap_Map_Turn rfl ?_
  have hlt : m < H.next := by obtain ⟨F, v, hF, k⟩ := hs.head; exact k.lt
  have hne : ¬ m = H.next := by omega
  obtain ⟨b, k⟩ := mapV hs
  simp -implicitDefEqProofs -dsimp (disch := omega) only [go_sem, Nat.reduceEqDiff, ↓reduceIte, Nat.reduceAdd, Nat.reduceMul, Nat.reduceSub, Nat.reduceLT, Nat.reduceLeDiff, Int.reduceLT, Int.reduceLE, Int.reduceEq, Int.reduceNeg, Int.reduceAdd, Int.reduceMul, Int.reduceSub, Int.reduceToNat, reduceCtorEq, dec_t, dec_f, if_neg hne, rd_s k.cell]
  have g1 := hs.alloc (l := [.ptr (some (m, 0))])
  generalize H.new (.cells [.ptr (some (m, 0))] true) = H1 at *
  generalize H.next = bx at *
  refine turned_ct hp g1.p1 (fx := fun _ j => j) (fy := fun i _ => h - 1 - i) ⟨z2, z1, by rw [Nat.mul_comm]; exact z3⟩ (fun i j H' Q' hi hj h' hq => ?_) (fun i j hi hj => by omega) fun c H2 h2 => ?_
  · obtain ⟨b', k'⟩ := mapV h'
    refine call_of hp.h_bitmap_Map_Turn_1 rfl ?_
    have e : (h : Int) - 1 - (i : Int) = ((h - 1 - i : Nat) : Int) := by omega
    simp -implicitDefEqProofs -dsimp (disch := omega) only [go_sem, Nat.reduceEqDiff, ↓reduceIte, Nat.reduceAdd, Nat.reduceMul, Nat.reduceSub, Nat.reduceLT, Nat.reduceLeDiff, Int.reduceLT, Int.reduceLE, Int.reduceEq, Int.reduceNeg, Int.reduceAdd, Int.reduceMul, Int.reduceSub, Int.reduceToNat, reduceCtorEq, dec_t, dec_f, rd_s h'.p1.cel, rd_s k'.cell, w64, e]
    exact hq
  · simp -implicitDefEqProofs -dsimp (disch := omega) only [go_sem, Nat.reduceEqDiff, ↓reduceIte, Nat.reduceAdd, Nat.reduceMul, Nat.reduceSub, Nat.reduceLT, Nat.reduceLeDiff, Int.reduceLT, Int.reduceLE, Int.reduceEq, Int.reduceNeg, Int.reduceAdd, Int.reduceMul, Int.reduceSub, Int.reduceToNat, reduceCtorEq, dec_t, dec_f, ]
    exact hQ c H2 h2.p2.tail
end
end Go.Ab
