/- Blit, as a whole. Conditions: none. -/
import Derived.Test.YtdkgdneiilnppaaCk
set_option linter.all false
namespace Go.Ab

def blitR (ww hh op : Int) : Int := if ww < 0 ∨ hh < 0 then 24 else if op < 0 ∨ 4 < op then 25 else 0
/-- What lies in both becomes what the operation makes of both. -/
def blitP (p q : Nat → Nat → Bool) (sw sh : Nat) (sx sy ww hh dx dy : Int) (op : Nat) : Nat → Nat → Bool := fun i j =>
  if (dx ≤ i ∧ (i : Int) < dx + ww ∧ 0 ≤ sx + (i - dx) ∧ sx + (i - dx) < sw) ∧ dy ≤ j ∧ (j : Int) < dy + hh ∧ 0 ≤ sy + (j - dy) ∧ sy + (j - dy) < sh then opB op (p i j) (q (sx + (i - dx)).toNat (sy + (j - dy)).toNat) else p i j
def srcC (sw sh sb : Nat) : List V := [.int .i64 sw, .int .i64 sh, .int .i64 (wds sw), .sl (some (sb, 0)) (sh * wds sw) (sh * wds sw) 1]

section
variable {P : Prog} {H : Heap} {R : List As} {Q : Out → Heap → Prop} {m w h : Nat} {p : Nat → Nat → Bool}

theorem blit_nil (hp : HasBm P) {m : V} {sx sy ww hh dx dy op : Int} (hQ : Q (.ret (.int .i64 26)) H) : Call P 64 [m, .ptr none, .int .i64 sx, .int .i64 sy, .int .i64 ww, .int .i64 hh, .int .i64 dx, .int .i64 dy, .int .i64 op] H Q := by
  refine call_of hp.h_bitmap_Map_Blit rfl ?_
  simp -implicitDefEqProofs -dsimp (disch := omega) only [go_sem, Nat.reduceEqDiff, ↓reduceIte, Nat.reduceAdd, Nat.reduceMul, Nat.reduceSub, Nat.reduceLT, Nat.reduceLeDiff, Int.reduceLT, Int.reduceLE, Int.reduceEq, Int.reduceNeg, Int.reduceAdd, Int.reduceMul, Int.reduceSub, Int.reduceToNat, reduceCtorEq, dec_t, dec_f, ]
  exact hQ

theorem blit_gen (hp : HasBm P) (hs : Hs H (MapA m w h p :: R)) {s sw sh : Nat} {q : Nat → Nat → Bool} (hd : 1 ≤ sw ∧ 1 ≤ sh ∧ sw * sh ≤ 1048576)
    (hc : ∀ H', Hs H' (MapA m w h p :: R) → ∃ sb, H'.get s = .cells (srcC sw sh sb) true)
    (hsrc : ∀ (A B : As) (sx sy dx dy n hn op t : Nat) (H' : Heap), t < hn → dy + hn ≤ h → sy + hn ≤ sh → Hs H' (MapA m w h (linesP p q sx sy dx dy n hn op t) :: A :: B :: R) →
      ∃ sb l, H'.get s = .cells (srcC sw sh sb) true ∧ H'.get sb = .cells l true ∧ l.length = sh * wds sw ∧
        ∀ i, i < wds sw → l[(sy + rho sy dy hn t) * wds sw + i]? = some (.int .u64 (word sw q (sy + rho sy dy hn t) i : Nat)))
    {sx sy ww hh dx dy op : Int} (h1 : i64r sx) (h2 : i64r sy) (h3 : i64r ww) (h4 : i64r hh) (h5 : i64r dx) (h6 : i64r dy) (h7 : i64r op)
    (hQ : ∀ H', Hs H' (MapA m w h (if blitR ww hh op = 0 then blitP p q sw sh sx sy ww hh dx dy op.toNat else p) :: R) → Q (.ret (.int .i64 (blitR ww hh op))) H') :
    Call P 64 [.ptr (some (m, 0)), .ptr (some (s, 0)), .int .i64 sx, .int .i64 sy, .int .i64 ww, .int .i64 hh, .int .i64 dx, .int .i64 dy, .int .i64 op] H Q := by
  obtain ⟨b0, k0⟩ := mapV hs
  obtain ⟨s1, s2, s3, s4, s5⟩ := mapSz hs
  obtain ⟨sb, c0⟩ := hc H hs
  unfold srcC at c0
  have hsw : sw ≤ 1048576 := by have := Nat.le_mul_of_pos_right sw (show 0 < sh by omega); omega
  have hsh : sh ≤ 1048576 := by have := Nat.le_mul_of_pos_left sh (show 0 < sw by omega); omega
  refine call_of hp.h_bitmap_Map_Blit rfl ?_
  have u3 := h3; have u4 := h4; have u7 := h7
  unfold i64r at u3 u4 u7
  by_cases c1 : ww < 0 ∨ hh < 0
  · rw [show blitR ww hh op = 24 by unfold blitR; rw [if_pos c1]] at hQ
    rcases (show ww < 0 ∨ (0 ≤ ww ∧ hh < 0) by omega) with d | d <;>
    · simp -implicitDefEqProofs -dsimp (disch := omega) only [go_sem, Nat.reduceEqDiff, ↓reduceIte, Nat.reduceAdd, Nat.reduceMul, Nat.reduceSub, Nat.reduceLT, Nat.reduceLeDiff, Int.reduceLT, Int.reduceLE, Int.reduceEq, Int.reduceNeg, Int.reduceAdd, Int.reduceMul, Int.reduceSub, Int.reduceToNat, reduceCtorEq, dec_t, dec_f, ]; exact hQ H hs
  by_cases c2 : op < 0 ∨ 4 < op
  · rw [show blitR ww hh op = 25 by unfold blitR; rw [if_neg c1, if_pos c2]] at hQ
    rcases (show op < 0 ∨ (0 ≤ op ∧ 4 < op) by omega) with d | d <;>
    · simp -implicitDefEqProofs -dsimp (disch := omega) only [go_sem, Nat.reduceEqDiff, ↓reduceIte, Nat.reduceAdd, Nat.reduceMul, Nat.reduceSub, Nat.reduceLT, Nat.reduceLeDiff, Int.reduceLT, Int.reduceLE, Int.reduceEq, Int.reduceNeg, Int.reduceAdd, Int.reduceMul, Int.reduceSub, Int.reduceToNat, reduceCtorEq, dec_t, dec_f, ]; exact hQ H hs
  rw [show blitR ww hh op = 0 by unfold blitR; rw [if_neg c1, if_neg c2], if_pos rfl] at hQ
  obtain ⟨on, rfl⟩ : ∃ on : Nat, op = on := ⟨op.toNat, by omega⟩
  have hon : on < 5 := by omega
  rw [Int.toNat_natCast] at hQ
  have bx := bothS_spec (a := sx) (as := sw) (b := dx) (bs := w) (n := ww) (by omega) (by omega) (by omega) h1 h5
  have bY := bothS_spec (a := sy) (as := sh) (b := dy) (bs := h) (n := hh) (by omega) (by omega) (by omega) h2 h6
  simp -implicitDefEqProofs -dsimp (disch := omega) only [go_sem, Nat.reduceEqDiff, ↓reduceIte, Nat.reduceAdd, Nat.reduceMul, Nat.reduceSub, Nat.reduceLT, Nat.reduceLeDiff, Int.reduceLT, Int.reduceLE, Int.reduceEq, Int.reduceNeg, Int.reduceAdd, Int.reduceMul, Int.reduceSub, Int.reduceToNat, reduceCtorEq, dec_t, dec_f, rd_s k0.cell, rd_s c0]
  refine both_ct hp (by omega) (by omega) h1 h5 h3 ?_
  simp -implicitDefEqProofs -dsimp (disch := omega) only [go_sem, Nat.reduceEqDiff, ↓reduceIte, Nat.reduceAdd, Nat.reduceMul, Nat.reduceSub, Nat.reduceLT, Nat.reduceLeDiff, Int.reduceLT, Int.reduceLE, Int.reduceEq, Int.reduceNeg, Int.reduceAdd, Int.reduceMul, Int.reduceSub, Int.reduceToNat, reduceCtorEq, dec_t, dec_f, rd_s k0.cell, rd_s c0]
  refine both_ct hp (by omega) (by omega) h2 h6 h4 ?_
  generalize bothS sx sw dx w ww = cx at *
  generalize bothS sy sh dy h hh = cy at *
  obtain ⟨ax, bx', nx⟩ := cx
  obtain ⟨ay, by', ny⟩ := cy
  dsimp only at bx bY
  obtain ⟨x1, x2, x3, x4⟩ := bx
  obtain ⟨y1, y2, y3, y4⟩ := bY
  unfold i64r at h1 h2 h5 h6
  have hval : ∀ i j : Nat, i < w → j < h → blitP p q sw sh sx sy ww hh dx dy on i j = if (nx ≠ 0 ∧ bx' ≤ i ∧ (i : Int) < bx' + nx) ∧ ny ≠ 0 ∧ by' ≤ j ∧ (j : Int) < by' + ny then opB on (p i j) (q (sx + (i - dx)).toNat (sy + (j - dy)).toNat) else p i j := by
    intro i j hi hj
    unfold blitP
    have a1 := x4 ((i : Int) - dx)
    have a2 := y4 ((j : Int) - dy)
    by_cases d : (dx ≤ i ∧ (i : Int) < dx + ww ∧ 0 ≤ sx + (i - dx) ∧ sx + (i - dx) < sw) ∧ dy ≤ j ∧ (j : Int) < dy + hh ∧ 0 ≤ sy + (j - dy) ∧ sy + (j - dy) < sh
    · have e1 := a1.1 (by omega)
      have e2 := a2.1 (by omega)
      rw [if_pos d, if_pos (by omega)]
    · rw [if_neg d, if_neg (fun e => d (by have := a1.2 (by omega); have := a2.2 (by omega); omega))]
  by_cases hz : nx = 0 ∨ ny = 0
  · rcases (show nx = 0 ∨ (nx ≠ 0 ∧ ny = 0) by omega) with d | d <;>
    · simp -implicitDefEqProofs -dsimp (disch := omega) only [go_sem, Nat.reduceEqDiff, ↓reduceIte, Nat.reduceAdd, Nat.reduceMul, Nat.reduceSub, Nat.reduceLT, Nat.reduceLeDiff, Int.reduceLT, Int.reduceLE, Int.reduceEq, Int.reduceNeg, Int.reduceAdd, Int.reduceMul, Int.reduceSub, Int.reduceToNat, reduceCtorEq, dec_t, dec_f, ]
      exact hQ H (hs.mapc fun i j hi hj => by rw [hval i j hi hj, if_neg (by omega)])
  have hz1 : nx ≠ 0 := fun e => hz (Or.inl e)
  have hz2 : ny ≠ 0 := fun e => hz (Or.inr e)
  have g1 := x3 hz1
  have g2 := y3 hz2
  obtain ⟨an, rfl⟩ : ∃ an : Nat, ax = an := ⟨ax.toNat, by omega⟩
  obtain ⟨bn, rfl⟩ : ∃ bn : Nat, bx' = bn := ⟨bx'.toNat, by omega⟩
  obtain ⟨n, rfl⟩ : ∃ n : Nat, nx = n := ⟨nx.toNat, by omega⟩
  obtain ⟨cn, rfl⟩ : ∃ cn : Nat, ay = cn := ⟨ay.toNat, by omega⟩
  obtain ⟨dn, rfl⟩ : ∃ dn : Nat, by' = dn := ⟨by'.toNat, by omega⟩
  obtain ⟨hn, rfl⟩ : ∃ hn : Nat, ny = hn := ⟨ny.toNat, by omega⟩
  simp -implicitDefEqProofs -dsimp (disch := omega) only [go_sem, Nat.reduceEqDiff, ↓reduceIte, Nat.reduceAdd, Nat.reduceMul, Nat.reduceSub, Nat.reduceLT, Nat.reduceLeDiff, Int.reduceLT, Int.reduceLE, Int.reduceEq, Int.reduceNeg, Int.reduceAdd, Int.reduceMul, Int.reduceSub, Int.reduceToNat, reduceCtorEq, dec_t, dec_f, ]
  refine operations_ct hp hs fun ob H1 hs1 => ?_
  have hoc : rd H1 none ob on = some (.fn (57 + on) [] []) := by
    rw [rd_s hs1.cel]
    rcases (show on = 0 ∨ on = 1 ∨ on = 2 ∨ on = 3 ∨ on = 4 by omega) with rfl | rfl | rfl | rfl | rfl <;> rfl
  obtain ⟨sb1, c1'⟩ := hc H1 hs1.tail
  unfold srcC at c1'
  have hwl : wds sw ≤ 1048576 := by unfold wds; omega
  simp -implicitDefEqProofs -dsimp (disch := omega) only [go_sem, Nat.reduceEqDiff, ↓reduceIte, Nat.reduceAdd, Nat.reduceMul, Nat.reduceSub, Nat.reduceLT, Nat.reduceLeDiff, Int.reduceLT, Int.reduceLE, Int.reduceEq, Int.reduceNeg, Int.reduceAdd, Int.reduceMul, Int.reduceSub, Int.reduceToNat, reduceCtorEq, dec_t, dec_f, Int.toNat_natCast, Nat.mul_one, hoc, rd_s c1', reps_u64]
  have hs2 : Hs (H1.new (.cells (u64s (List.replicate (wds sw) 0)) true)) (Lst (.sl (some (H1.next, 0)) (wds sw) (wds sw) 1) 1 (wds sw) (u64s (List.replicate (wds sw) 0)) :: Cel ob [.fn 57 [] [], .fn 58 [] [], .fn 59 [] [], .fn 60 [] [], .fn 61 [] []] :: MapA m w h p :: R) :=
    hs1.lst (Same.new _ _ _) (Or.inr ⟨H1.next, rfl, by simp [get_new], by simp [u64s], by simp [next_new]⟩) fun b hb => by have : b = H1.next := hb; omega
  generalize H1.new (.cells (u64s (List.replicate (wds sw) 0)) true) = H2 at hs2 ⊢
  generalize H1.next = rb at hs2 ⊢
  refine blit_out (q := q) (sh := sh) hp hs2.p2 (by simp) (by omega) (by omega) (by omega) (by omega) (by omega) (by omega) hd.2.2 hon (fun t L H' ht hL h' => hsrc _ _ an cn bn dn n hn on t H' ht (by omega) (by omega) h') fun fr H3 hds h3 => ?_
  obtain ⟨tm, ds⟩ := fr
  cases hds
  simp -implicitDefEqProofs -dsimp (disch := omega) only [go_sem, Nat.reduceEqDiff, ↓reduceIte, Nat.reduceAdd, Nat.reduceMul, Nat.reduceSub, Nat.reduceLT, Nat.reduceLeDiff, Int.reduceLT, Int.reduceLE, Int.reduceEq, Int.reduceNeg, Int.reduceAdd, Int.reduceMul, Int.reduceSub, Int.reduceToNat, reduceCtorEq, dec_t, dec_f, ]
  refine hQ H3 ((h3.p1.tail).mapc fun i j hi hj => ?_)
  rw [hval i j hi hj]
  unfold linesP
  by_cases d : bn ≤ i ∧ i < bn + n ∧ dn ≤ j ∧ j < dn + hn
  · rw [if_pos (by refine ⟨d.1, d.2.1, d.2.2.1, d.2.2.2, ?_⟩; split <;> omega), if_pos (by omega), show (sx + ((i : Int) - dx)).toNat = an + i - bn by omega, show (sy + ((j : Int) - dy)).toNat = cn + j - dn by omega]
  · rw [if_neg (fun e => d ⟨e.1, e.2.1, e.2.2.1, e.2.2.2.1⟩), if_neg (by omega)]

/-- From another map. -/
theorem blit_ct (hp : HasBm P) {s sw sh : Nat} {q : Nat → Nat → Bool} (hs : Hs H (MapA m w h p :: MapA s sw sh q :: R)) {sx sy ww hh dx dy op : Int} (h1 : i64r sx) (h2 : i64r sy) (h3 : i64r ww) (h4 : i64r hh) (h5 : i64r dx) (h6 : i64r dy) (h7 : i64r op)
    (hQ : ∀ H', Hs H' (MapA m w h (if blitR ww hh op = 0 then blitP p q sw sh sx sy ww hh dx dy op.toNat else p) :: MapA s sw sh q :: R) → Q (.ret (.int .i64 (blitR ww hh op))) H') :
    Call P 64 [.ptr (some (m, 0)), .ptr (some (s, 0)), .int .i64 sx, .int .i64 sy, .int .i64 ww, .int .i64 hh, .int .i64 dx, .int .i64 dy, .int .i64 op] H Q := by
  obtain ⟨z1, z2, z3, z4, z5⟩ := mapSz hs.p1
  refine blit_gen hp hs (q := q) ⟨z1, z2, z3⟩ (fun H' h' => ?_) (fun A B sx sy dx dy n hn op t H' ht hy1 hy2 h' => ?_) h1 h2 h3 h4 h5 h6 h7 hQ
  · obtain ⟨b, k⟩ := mapV h'.p1
    exact ⟨b, k.cell⟩
  · obtain ⟨b, k⟩ := mapV h'.p3
    have hr : rho sy dy hn t < hn := by unfold rho; split <;> omega
    refine ⟨b, _, k.cell, k.row, by simp [u64s, Wds_length], fun i hi => ?_⟩
    simp only [u64s, List.getElem?_map, Wds_at (show sy + rho sy dy hn t < sh by omega) hi, Option.map_some]
/-- From itself. -/
theorem blit_self (hp : HasBm P) (hs : Hs H (MapA m w h p :: R)) {sx sy ww hh dx dy op : Int} (h1 : i64r sx) (h2 : i64r sy) (h3 : i64r ww) (h4 : i64r hh) (h5 : i64r dx) (h6 : i64r dy) (h7 : i64r op)
    (hQ : ∀ H', Hs H' (MapA m w h (if blitR ww hh op = 0 then blitP p p w h sx sy ww hh dx dy op.toNat else p) :: R) → Q (.ret (.int .i64 (blitR ww hh op))) H') :
    Call P 64 [.ptr (some (m, 0)), .ptr (some (m, 0)), .int .i64 sx, .int .i64 sy, .int .i64 ww, .int .i64 hh, .int .i64 dx, .int .i64 dy, .int .i64 op] H Q := by
  obtain ⟨z1, z2, z3, z4, z5⟩ := mapSz hs
  refine blit_gen hp hs (q := p) ⟨z1, z2, z3⟩ (fun H' h' => ?_) (fun A B sx sy dx dy n hn op t H' ht hy1 hy2 h' => ?_) h1 h2 h3 h4 h5 h6 h7 hQ
  · obtain ⟨b, k⟩ := mapV h'
    exact ⟨b, k.cell⟩
  · obtain ⟨b, k⟩ := mapV h'
    have hr : rho sy dy hn t < hn := by unfold rho; split <;> omega
    refine ⟨b, _, k.cell, k.row, by simp [u64s, Wds_length], fun i hi => ?_⟩
    simp only [u64s, List.getElem?_map, Wds_at (show sy + rho sy dy hn t < h by omega) hi, Option.map_some]
    have e : word w (linesP p p sx sy dx dy n hn op t) (sy + rho sy dy hn t) i = word w p (sy + rho sy dy hn t) i := by
      refine mkw_congr fun k hk => ?_
      congr 1
      unfold linesP
      rw [if_neg]
      rintro ⟨_, _, g3, g4, g5⟩
      unfold rho at g3 g4 g5
      by_cases g6 : sy < dy
      · simp only [if_pos g6] at g3 g4 g5; omega
      · simp only [if_neg g6] at g3 g4 g5; omega
    rw [e]

theorem crop_ct (hp : HasBm P) (hs : Hs H (MapA m w h p :: R)) {x y ww hh : Int} (h1 : i64r x) (h2 : i64r y) (h3 : i64r ww) (h4 : i64r hh)
    (hQ1 : ¬ sizeOk ww hh → Q (.ret (.tup [.ptr none, .int .i64 20])) H)
    (hQ2 : sizeOk ww hh → ∀ c H', Hs H' (MapA c ww.toNat hh.toNat (fun i j => decide ((0 ≤ x + i ∧ x + i < w) ∧ 0 ≤ y + j ∧ y + j < h) && p (x + i).toNat (y + j).toNat) :: MapA m w h p :: R) → Q (.ret (.tup [.ptr (some (c, 0)), .int .i64 0])) H') :
    Call P 65 [.ptr (some (m, 0)), .int .i64 x, .int .i64 y, .int .i64 ww, .int .i64 hh] H Q := by
  refine call_of hp.h_bitmap_Map_Crop rfl ?_
  have u3 := h3; have u4 := h4
  unfold i64r at u3 u4
  simp -implicitDefEqProofs -dsimp (disch := omega) only [go_sem, Nat.reduceEqDiff, ↓reduceIte, Nat.reduceAdd, Nat.reduceMul, Nat.reduceSub, Nat.reduceLT, Nat.reduceLeDiff, Int.reduceLT, Int.reduceLE, Int.reduceEq, Int.reduceNeg, Int.reduceAdd, Int.reduceMul, Int.reduceSub, Int.reduceToNat, reduceCtorEq, dec_t, dec_f, ]
  refine new_ct hp hs u3 u4 (fun k => ?_) fun k c H1 g1 _ => ?_
  · simp -implicitDefEqProofs -dsimp (disch := omega) only [go_sem, Nat.reduceEqDiff, ↓reduceIte, Nat.reduceAdd, Nat.reduceMul, Nat.reduceSub, Nat.reduceLT, Nat.reduceLeDiff, Int.reduceLT, Int.reduceLE, Int.reduceEq, Int.reduceNeg, Int.reduceAdd, Int.reduceMul, Int.reduceSub, Int.reduceToNat, reduceCtorEq, dec_t, dec_f, ]
    exact hQ1 k
  · have hQ2 := hQ2 k
    obtain ⟨z1, z2, z3⟩ := k
    simp -implicitDefEqProofs -dsimp (disch := omega) only [go_sem, Nat.reduceEqDiff, ↓reduceIte, Nat.reduceAdd, Nat.reduceMul, Nat.reduceSub, Nat.reduceLT, Nat.reduceLeDiff, Int.reduceLT, Int.reduceLE, Int.reduceEq, Int.reduceNeg, Int.reduceAdd, Int.reduceMul, Int.reduceSub, Int.reduceToNat, reduceCtorEq, dec_t, dec_f, ]
    refine blit_ct hp g1 h1 h2 h3 h4 (by unfold i64r; omega) (by unfold i64r; omega) (by unfold i64r; omega) fun H2 g2 => ?_
    have e : blitR ww hh 4 = 0 := by unfold blitR; rw [if_neg (by omega), if_neg (by omega)]
    rw [e, if_pos rfl] at g2
    rw [e]
    simp -implicitDefEqProofs -dsimp (disch := omega) only [go_sem, Nat.reduceEqDiff, ↓reduceIte, Nat.reduceAdd, Nat.reduceMul, Nat.reduceSub, Nat.reduceLT, Nat.reduceLeDiff, Int.reduceLT, Int.reduceLE, Int.reduceEq, Int.reduceNeg, Int.reduceAdd, Int.reduceMul, Int.reduceSub, Int.reduceToNat, reduceCtorEq, dec_t, dec_f, ]
    refine hQ2 c H2 (g2.mapc fun i j hi hj => ?_)
    unfold blitP
    by_cases d : (0 ≤ x + i ∧ x + i < w) ∧ 0 ≤ y + j ∧ y + j < h
    · rw [decide_eq_true d, if_pos (by omega), show x + ((i : Int) - 0) = x + i by omega, show y + ((j : Int) - 0) = y + j by omega]; rfl
    · rw [decide_eq_false d, if_neg (by omega)]; rfl
end
end Go.Ab
