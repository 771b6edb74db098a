/- The reference's bitmaps: sizes, white ones, pixels. Conditions: none. -/
import Derived.Test.YtdkgdneiilnppaaCn
import Derived.Test.YtdkgdneiilnppaaPRz
set_option linter.all false
namespace Go.Ab

/-- A bitmap of one's own. -/
def BmA (v : V) (w h : Nat) (p : Nat → Nat → Bool) : As where
  ok F H := (∀ x, F x ↔ sb v x) ∧ Own H v 1 (Wds w h p).length (u64s (Wds w h p)) ∧ 1 ≤ w ∧ 1 ≤ h ∧ w * h ≤ 1048576
  st := fun {F H H'} ⟨h1, h2, h3⟩ hn he => ⟨h1, h2.same (S := fun b => ¬ F b) ⟨hn, fun b _ hs => he b (Classical.not_not.1 hs)⟩ (fun b hb h => h ((h1 b).2 hb)), h3⟩
  lt := fun ⟨h1, h2, _⟩ b hb => h2.lt ((h1 b).1 hb)
theorem bmA_of {H : Heap} {v : V} {w h : Nat} {p : Nat → Nat → Bool} {R : List As} (hs : Hs H (Lst v 1 (Wds w h p).length (u64s (Wds w h p)) :: R)) (hd : 1 ≤ w ∧ 1 ≤ h ∧ w * h ≤ 1048576) : Hs H (BmA v w h p :: R) :=
  hs.step fun F ⟨h1, h2⟩ => ⟨fun _ => False, F, Same.refl _ _, fun _ _ h => h.elim, ⟨h1, h2, hd⟩, fun _ h => Or.inl h⟩
theorem Hs.bml {H : Heap} {v : V} {w h : Nat} {p : Nat → Nat → Bool} {R : List As} (hs : Hs H (BmA v w h p :: R)) : Hs H (Lst v 1 (Wds w h p).length (u64s (Wds w h p)) :: R) :=
  hs.step fun F ⟨h1, h2, hd⟩ => ⟨fun _ => False, F, Same.refl _ _, fun _ _ h => h.elim, ⟨h1, h2⟩, fun _ h => Or.inl h⟩
theorem Hs.bmc {H : Heap} {v : V} {w h : Nat} {p q : Nat → Nat → Bool} {R : List As} (hs : Hs H (BmA v w h p :: R)) (e : ∀ x y, x < w → y < h → p x y = q x y) : Hs H (BmA v w h q :: R) :=
  hs.step fun F ⟨h1, h2, hd⟩ => ⟨fun _ => False, F, Same.refl _ _, fun _ _ h => h.elim, ⟨h1, by rw [← Wds_congr e]; exact h2, hd⟩, fun _ h => Or.inl h⟩
theorem bmSz {H : Heap} {v : V} {w h : Nat} {p : Nat → Nat → Bool} {R : List As} (hs : Hs H (BmA v w h p :: R)) : 1 ≤ w ∧ 1 ≤ h ∧ w * h ≤ 1048576 ∧ w ≤ 1048576 ∧ h ≤ 1048576 := by
  obtain ⟨F, _, _, h3, h2, h1⟩ := hs.head
  have h4 := Nat.le_mul_of_pos_right w (show 0 < h by omega)
  have h5 := Nat.le_mul_of_pos_left h (show 0 < w by omega)
  exact ⟨h3, h2, h1, by omega, by omega⟩
structure BmV (H : Heap) (v : V) (b w h : Nat) (p : Nat → Nat → Bool) (R : List As) : Prop where
  val : v = .sl (some (b, 0)) (h * wds w) (h * wds w) 1
  row : H.get b = .cells (u64s (Wds w h p)) true
  lt : b < H.next
  arr : Arr H v 1 (Wds w h p).length (u64s (Wds w h p))
  rd : ∀ y i, y < h → i < wds w → rd H none b (y * wds w + i) = some (.int .u64 (word w p y i : Nat))
  wr : ∀ y i n q, y < h → i < wds w → n < 18446744073709551616 → (∀ k, k < 64 → wb n k = (decide (64 * i + k < w) && q (64 * i + k) y)) → (∀ x' y', x' < w → y' < h → (y' ≠ y ∨ x' / 64 ≠ i) → q x' y' = p x' y') →
    ∃ H', wr H b (y * wds w + i) [.int .u64 (n : Nat)] = some H' ∧ Hs H' (BmA v w h q :: R) ∧ ∀ x, x ≠ b → H'.get x = H.get x
  words : h * wds w ≤ 1048576
theorem bmV {H : Heap} {v : V} {w h : Nat} {p : Nat → Nat → Bool} {R : List As} (hs : Hs H (BmA v w h p :: R)) : ∃ b, BmV H v b w h p R := by
  obtain ⟨F, hF, hown, d1, d2, d3⟩ := hs.head
  have hpos : 0 < h * wds w := Nat.mul_pos (by omega) (by unfold wds; omega)
  rcases hown with ⟨_, e, _⟩ | ⟨b, hv, hg, hl, hb⟩
  · rw [Wds_length] at e; omega
  · have hv' := hv
    rw [Wds_length] at hv'
    refine ⟨b, hv', hg, hb, Own.arr (Or.inr ⟨b, hv, hg, hl, hb⟩), fun y i hy hi => ?_, fun y i n q hy hi hn h1 h2 => ?_, wds_le d3 d1⟩
    · rw [rd_s hg]; simp only [u64s, List.getElem?_map, Wds_at hy hi, Option.map_some]
    · have hidx := word_at hy hi
      refine ⟨H.put b (.cells (u64s (Wds w h q)) true), ?_, ?_, fun x hx => by rw [get_put, if_neg hx]⟩
      · rw [wr_s hg]
        have e : over (u64s (Wds w h p)) (y * wds w + i) [.int .u64 (n : Nat)] = u64s (Wds w h q) := by
          rw [over_one (by simp [u64s, Wds_length]; omega), ← Wds_set hy hi hn h1 h2]
          simp [u64s, List.map_set]
        rw [e, if_pos (by simp [u64s, Wds_length]; omega)]; rfl
      · refine hs.step fun F ⟨k1, k2, k3⟩ => ⟨fun x => x = b, F, Same.put rfl, fun x _ hx => (k1 x).2 (by rw [hv, show x = b from hx]; exact rfl), ⟨k1, ?_, k3⟩, fun _ hx => Or.inl hx⟩
        rw [Wds_length]
        exact Or.inr ⟨b, hv', by simp [get_put], by simp [u64s, Wds_length], hb⟩

section
variable {P : Prog} {H : Heap} {R : List As} {Q : Out → Heap → Prop}

theorem sizeR_ct (hp : HasRz P) {w h : Int} (hw : i64r w) (hh : i64r h) (hQ : Q (.ret (.bool (decide (sizeOk w h)))) H) : Call P 74 [.int .i64 w, .int .i64 h] H Q := by
  unfold i64r at hw hh
  refine call_of hp.h_burinref0_Size rfl ?_
  by_cases k : sizeOk w h
  · rw [decide_eq_true k] at hQ
    have hle := sizeOk_le k
    obtain ⟨k1, k2, k3⟩ := k
    have hdiv : h ≤ 1048576 / w := (Int.le_ediv_iff_mul_le (by omega)).2 (by rw [Int.mul_comm]; exact k3)
    have hdl : 1048576 / w ≤ 1048576 := Int.ediv_le_self _ (by omega)
    simp -implicitDefEqProofs -dsimp (disch := omega) only [go_sem, Nat.reduceEqDiff, ↓reduceIte, Nat.reduceAdd, Nat.reduceMul, Nat.reduceSub, Nat.reduceLT, Nat.reduceLeDiff, Int.reduceLT, Int.reduceLE, Int.reduceEq, Int.reduceNeg, Int.reduceAdd, Int.reduceMul, Int.reduceSub, Int.reduceToNat, reduceCtorEq, dec_t, dec_f, tdivN, w64, if_neg (show ¬ w = 0 by omega)]
    exact hQ
  · rw [decide_eq_false k] at hQ
    by_cases c : 1 ≤ w ∧ 1 ≤ h ∧ w ≤ 1048576
    · have hdiv : ¬ h ≤ 1048576 / w := fun e => k ⟨c.1, c.2.1, by have := (Int.le_ediv_iff_mul_le (show 0 < w by omega)).1 e; rwa [Int.mul_comm] at this⟩
      have hdl : 1048576 / w ≤ 1048576 := Int.ediv_le_self _ (by omega)
      have hd0 : 0 ≤ 1048576 / w := Int.ediv_nonneg (by omega) (by omega)
      simp -implicitDefEqProofs -dsimp (disch := omega) only [go_sem, Nat.reduceEqDiff, ↓reduceIte, Nat.reduceAdd, Nat.reduceMul, Nat.reduceSub, Nat.reduceLT, Nat.reduceLeDiff, Int.reduceLT, Int.reduceLE, Int.reduceEq, Int.reduceNeg, Int.reduceAdd, Int.reduceMul, Int.reduceSub, Int.reduceToNat, reduceCtorEq, dec_t, dec_f, tdivN, w64, if_neg (show ¬ w = 0 by omega)]
      exact hQ
    · rcases (show w < 1 ∨ (1 ≤ w ∧ h < 1) ∨ (1 ≤ w ∧ 1 ≤ h ∧ 1048576 < w) by omega) with d | d | d <;>
      · simp -implicitDefEqProofs -dsimp (disch := omega) only [go_sem, Nat.reduceEqDiff, ↓reduceIte, Nat.reduceAdd, Nat.reduceMul, Nat.reduceSub, Nat.reduceLT, Nat.reduceLeDiff, Int.reduceLT, Int.reduceLE, Int.reduceEq, Int.reduceNeg, Int.reduceAdd, Int.reduceMul, Int.reduceSub, Int.reduceToNat, reduceCtorEq, dec_t, dec_f, ]; exact hQ
theorem words_ct (hp : HasRz P) {w : Nat} (hw : w ≤ 1099511627776) (hQ : Q (.ret (.int .i64 (wds w : Nat))) H) : Call P 75 [.int .i64 w] H Q := by
  refine call_of hp.h_burinref0_words rfl ?_
  have ew : ((w : Int) + 63) / 64 = ((wds w : Nat) : Int) := by unfold wds; omega
  simp -implicitDefEqProofs -dsimp (disch := omega) only [go_sem, Nat.reduceEqDiff, ↓reduceIte, Nat.reduceAdd, Nat.reduceMul, Nat.reduceSub, Nat.reduceLT, Nat.reduceLeDiff, Int.reduceLT, Int.reduceLE, Int.reduceEq, Int.reduceNeg, Int.reduceAdd, Int.reduceMul, Int.reduceSub, Int.reduceToNat, reduceCtorEq, dec_t, dec_f, w64, tdivN, ew]
  exact hQ
theorem white_ct (hp : HasRz P) (hs : Hs H R) {w h : Nat} (hd : 1 ≤ w ∧ 1 ≤ h ∧ w * h ≤ 1048576) (hQ : ∀ v H', Hs H' (BmA v w h (fun _ _ => false) :: R) → Same (fun _ => False) H H' → Q (.ret (.agg [.int .i64 w, .int .i64 h, v])) H') : Call P 77 [.int .i64 w, .int .i64 h] H Q := by
  obtain ⟨z1, z2, z3⟩ := hd
  have kw := wds_le z3 z1
  have z4 : w ≤ 1048576 := by have := Nat.le_mul_of_pos_right w (show 0 < h by omega); omega
  have z5 : h ≤ 1048576 := by have := Nat.le_mul_of_pos_left h (show 0 < w by omega); omega
  have em : (h : Int) * ((wds w : Nat) : Int) = ((h * wds w : Nat) : Int) := (Int.natCast_mul _ _).symm
  refine call_of hp.h_burinref0_White rfl ?_
  have g1 := hs.alloc (l := [.int .i64 0, .int .i64 0, .sl none 0 0 0])
  have s1 : Same (fun _ => False) H (H.new (.cells [.int .i64 0, .int .i64 0, .sl none 0 0 0] true)) := Same.new _ _ _
  simp -implicitDefEqProofs -dsimp (disch := omega) only [go_sem, Nat.reduceEqDiff, ↓reduceIte, Nat.reduceAdd, Nat.reduceMul, Nat.reduceSub, Nat.reduceLT, Nat.reduceLeDiff, Int.reduceLT, Int.reduceLE, Int.reduceEq, Int.reduceNeg, Int.reduceAdd, Int.reduceMul, Int.reduceSub, Int.reduceToNat, reduceCtorEq, dec_t, dec_f, ]
  generalize H.new (.cells [.int .i64 0, .int .i64 0, .sl none 0 0 0] true) = H1 at *
  generalize hb : H.next = b at *
  refine words_ct hp (by omega) ?_
  have g2 : Hs (H1.new (.cells (u64s (Wds w h fun _ _ => false)) true)) (Lst (.sl (some (H1.next, 0)) (Wds w h fun _ _ => false).length (Wds w h fun _ _ => false).length 1) 1 (Wds w h fun _ _ => false).length (u64s (Wds w h fun _ _ => false)) :: Cel b [.int .i64 0, .int .i64 0, .sl none 0 0 0] :: R) :=
    g1.lst (Same.new _ _ _) (Or.inr ⟨H1.next, rfl, by simp [get_new], by simp [u64s], by simp [next_new]⟩) fun x hx => by have : x = H1.next := hx; omega
  have s2 := s1.trans (Same.new (fun _ => False) H1 (.cells (u64s (Wds w h fun _ _ => false)) true)) fun _ _ h => h
  have hne : ¬ b = H1.next := by have := g1.celt; omega
  have hwN : wrN H1 (u64s (List.replicate (h * wds w) 0)) b 0 [.int .i64 w, .int .i64 h, .sl (some (H1.next, 0)) (h * wds w) (h * wds w) 1] = some ((H1.new (.cells (u64s (Wds w h fun _ _ => false)) true)).put b (.cells [.int .i64 w, .int .i64 h, .sl (some (H1.next, 0)) (h * wds w) (h * wds w) 1] true)) := by
    unfold wrN; rw [← Wds_white, wr_s g2.p1.cel]; rfl
  simp -implicitDefEqProofs -dsimp (disch := omega) only [go_sem, Nat.reduceEqDiff, ↓reduceIte, Nat.reduceAdd, Nat.reduceMul, Nat.reduceSub, Nat.reduceLT, Nat.reduceLeDiff, Int.reduceLT, Int.reduceLE, Int.reduceEq, Int.reduceNeg, Int.reduceAdd, Int.reduceMul, Int.reduceSub, Int.reduceToNat, reduceCtorEq, dec_t, dec_f, w64, em, Int.toNat_natCast, reps_u64, if_neg hne, hwN]
  have g3 := g2.p1.put (l' := [.int .i64 w, .int .i64 h, .sl (some (H1.next, 0)) (h * wds w) (h * wds w) 1])
  rw [rd_m g3.cel]
  simp -implicitDefEqProofs -dsimp (disch := omega) only [go_sem, Nat.reduceEqDiff, ↓reduceIte, Nat.reduceAdd, Nat.reduceMul, Nat.reduceSub, Nat.reduceLT, Nat.reduceLeDiff, Int.reduceLT, Int.reduceLE, Int.reduceEq, Int.reduceNeg, Int.reduceAdd, Int.reduceMul, Int.reduceSub, Int.reduceToNat, reduceCtorEq, dec_t, dec_f, ]
  refine hQ _ _ (bmA_of ?_ ⟨z1, z2, z3⟩) (s2.trans (Same.put (S := fun x => x = b) rfl) fun x hx e => by have : x = b := e; omega)
  have g4 := g3.tail
  rw [Wds_length] at g4 ⊢
  exact g4
theorem do_ct (hp : HasRz P) {op : Nat} (ho : op < 5) {a b : Bool} (hQ : Q (.ret (.int .i64 ((opB op a b).toNat : Nat))) H) : Call P 80 [.int .i64 op, .int .i64 (a.toNat : Nat), .int .i64 (b.toNat : Nat)] H Q := by
  refine call_of hp.h_burinref0_Do rfl ?_
  rcases (show op = 0 ∨ op = 1 ∨ op = 2 ∨ op = 3 ∨ op = 4 by omega) with rfl | rfl | rfl | rfl | rfl <;> cases a <;> cases b <;>
  · simp -implicitDefEqProofs -dsimp (disch := omega) only [go_sem, Nat.reduceEqDiff, ↓reduceIte, Nat.reduceAdd, Nat.reduceMul, Nat.reduceSub, Nat.reduceLT, Nat.reduceLeDiff, Int.reduceLT, Int.reduceLE, Int.reduceEq, Int.reduceNeg, Int.reduceAdd, Int.reduceMul, Int.reduceSub, Int.reduceToNat, reduceCtorEq, dec_t, dec_f, Bool.toNat_true, Bool.toNat_false, show ((0 : Nat) : Int) = 0 from rfl, show ((1 : Nat) : Int) = 1 from rfl]
    exact hQ
/-- A pixel of words. -/
theorem getR_ct (hp : HasRz P) (hs : Hs H R) {w h : Nat} {v : V} {ws : List Nat} (hv : Arr H v 1 ws.length (u64s ws)) (hl : ws.length = h * wds w) (hb : ∀ n ∈ ws, n < 18446744073709551616) (hd : 1 ≤ w ∧ w ≤ 1048576 ∧ h * wds w ≤ 1048576) {x y : Int}
    (hQ : ∀ H', Hs H' R → Same (fun _ => False) H H' → Q (.ret (.int .i64 (getV w h (pixOf w ws) x y : Nat))) H') : Call P 78 [.agg [.int .i64 w, .int .i64 h, v], .int .i64 x, .int .i64 y] H Q := by
  refine call_of hp.h_burinref0_Get rfl ?_
  have g1 := hs.alloc (l := [.int .i64 w, .int .i64 h, v])
  have s1 : Same (fun _ => False) H (H.new (.cells [.int .i64 w, .int .i64 h, v] true)) := Same.new _ _ _
  have hc := g1.cel
  obtain ⟨a, c, e', rfl⟩ := hv.shape
  have hv1 := hv.same s1 fun _ _ h => h
  simp -implicitDefEqProofs -dsimp (disch := omega) only [go_sem, Nat.reduceEqDiff, ↓reduceIte, Nat.reduceAdd, Nat.reduceMul, Nat.reduceSub, Nat.reduceLT, Nat.reduceLeDiff, Int.reduceLT, Int.reduceLE, Int.reduceEq, Int.reduceNeg, Int.reduceAdd, Int.reduceMul, Int.reduceSub, Int.reduceToNat, reduceCtorEq, dec_t, dec_f, ]
  generalize H.new (.cells [.int .i64 w, .int .i64 h, .sl a ws.length c e'] true) = H1 at *
  generalize H.next = bx at *
  unfold getV at hQ
  by_cases c1 : 0 ≤ x ∧ x < w ∧ 0 ≤ y ∧ y < h
  · rw [if_pos c1] at hQ
    obtain ⟨xn, rfl⟩ : ∃ xn : Nat, x = xn := ⟨x.toNat, by omega⟩
    obtain ⟨yn, rfl⟩ : ∃ yn : Nat, y = yn := ⟨y.toNat, by omega⟩
    rw [Int.toNat_natCast, Int.toNat_natCast] at hQ
    have hx : xn < w := by omega
    have hy : yn < h := by omega
    have hi := wds_of hx
    have hidx := word_at hy hi
    have hyy : yn * wds w ≤ h * wds w := Nat.mul_le_mul_right _ (by omega)
    have e1 : (xn : Int) / 64 = ((xn / 64 : Nat) : Int) := rfl
    have e2 : (xn : Int) % 64 = ((xn % 64 : Nat) : Int) := rfl
    have e3 : (yn : Int) * ((wds w : Nat) : Int) = ((yn * wds w : Nat) : Int) := (Int.natCast_mul _ _).symm
    have e4 : 63 - ((xn % 64 : Nat) : Int) = ((63 - xn % 64 : Nat) : Int) := by omega
    obtain ⟨b3, o3, c3, hv3, hr3⟩ := arr_u64 hv1 (i := yn * wds w + xn / 64) (by omega)
    cases hv3
    have hwl := hb _ (List.getElem_mem (show yn * wds w + xn / 64 < ws.length by omega))
    have hbt := bit_word (k := xn % 64) hwl (Nat.mod_lt _ (by omega))
    have hpx : pixOf w ws xn yn = wb ws[yn * wds w + xn / 64] (xn % 64) := by
      unfold pixOf; rw [List.getD_eq_getElem?_getD, List.getElem?_eq_getElem (by omega)]; rfl
    rw [hpx] at hQ
    generalize ws[yn * wds w + xn / 64] = W at *
    have hbl := Bool.toNat_le (wb W (xn % 64))
    simp -implicitDefEqProofs -dsimp (disch := omega) only [go_sem, Nat.reduceEqDiff, ↓reduceIte, Nat.reduceAdd, Nat.reduceMul, Nat.reduceSub, Nat.reduceLT, Nat.reduceLeDiff, Int.reduceLT, Int.reduceLE, Int.reduceEq, Int.reduceNeg, Int.reduceAdd, Int.reduceMul, Int.reduceSub, Int.reduceToNat, reduceCtorEq, dec_t, dec_f, rd_s hc, tdivN, tmodN, e1, e2, e4, w64, wu64]
    refine words_ct hp (by omega) ?_
    simp -implicitDefEqProofs -dsimp (disch := omega) only [go_sem, Nat.reduceEqDiff, ↓reduceIte, Nat.reduceAdd, Nat.reduceMul, Nat.reduceSub, Nat.reduceLT, Nat.reduceLeDiff, Int.reduceLT, Int.reduceLE, Int.reduceEq, Int.reduceNeg, Int.reduceAdd, Int.reduceMul, Int.reduceSub, Int.reduceToNat, reduceCtorEq, dec_t, dec_f, ]
    refine aft_intro (by simp [rechecks, recheck, fresh, Fr.get, look, step, opd, rd_s hc]) ?_
    simp -implicitDefEqProofs -dsimp (disch := omega) only [go_sem, Nat.reduceEqDiff, ↓reduceIte, Nat.reduceAdd, Nat.reduceMul, Nat.reduceSub, Nat.reduceLT, Nat.reduceLeDiff, Int.reduceLT, Int.reduceLE, Int.reduceEq, Int.reduceNeg, Int.reduceAdd, Int.reduceMul, Int.reduceSub, Int.reduceToNat, reduceCtorEq, dec_t, dec_f, tdivN, e3, w64, cadd, Int.toNat_natCast, Nat.mul_one, hr3, shr64 hwl, hbt]
    exact hQ H1 g1.tail s1
  · rw [if_neg c1] at hQ
    rcases (show x < 0 ∨ (0 ≤ x ∧ y < 0) ∨ (0 ≤ x ∧ 0 ≤ y ∧ (w : Int) ≤ x) ∨ (0 ≤ x ∧ x < w ∧ 0 ≤ y ∧ (h : Int) ≤ y) by omega) with d | d | d | d <;>
    · simp -implicitDefEqProofs -dsimp (disch := omega) only [go_sem, Nat.reduceEqDiff, ↓reduceIte, Nat.reduceAdd, Nat.reduceMul, Nat.reduceSub, Nat.reduceLT, Nat.reduceLeDiff, Int.reduceLT, Int.reduceLE, Int.reduceEq, Int.reduceNeg, Int.reduceAdd, Int.reduceMul, Int.reduceSub, Int.reduceToNat, reduceCtorEq, dec_t, dec_f, rd_s hc]; exact hQ H1 g1.tail s1
end
end Go.Ab
