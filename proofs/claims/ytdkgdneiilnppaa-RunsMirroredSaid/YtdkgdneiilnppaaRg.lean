/- The reference's Back. Conditions: none. -/
import Derived.Test.YtdkgdneiilnppaaRf
set_option linter.all false
namespace Go.Ab
/-- As bkQ, and of row y's next run the pixels from a up to x. -/
def bkX (rows : List (List (Int × Int))) (y k : Nat) (a x : Int) : Nat → Nat → Bool := fun i j => bkQ rows y k i j || (decide (j = y) && decide (a ≤ i ∧ (i : Int) < x))
theorem lastTo_ge {w : Int} {l : List (Int × Int)} (h : okRow w (-1) l = true) : -1 ≤ lastTo (-1) l := by
  by_cases e : l = []
  · subst e; simp [lastTo]
  · have e2 := (List.dropLast_concat_getLast e).symm
    have := okRow_mid e2 h (by omega)
    rw [e2, lastTo_snoc]; exact this
theorem okRow_take {w : Int} {l : List (Int × Int)} (h : okRow w (-1) l = true) (k : Nat) : okRow w (-1) (l.take k) = true := by
  rw [← List.take_append_drop k l] at h; exact okRow_app h
theorem okRow_at {w : Int} {l : List (Int × Int)} (h : okRow w (-1) l = true) {k : Nat} (hk : k < l.length) : lastTo (-1) (l.take k) < l[k].1 ∧ l[k].1 < l[k].2 ∧ l[k].2 ≤ w := by
  have h1 := okRow_take h (k + 1)
  rw [List.take_succ_eq_append_getElem hk, okRow_snoc, Bool.and_eq_true] at h1
  exact of_decide_eq_true h1.2
section
variable {P : Prog} {H : Heap} {R : List As} {Q : Out → Heap → Prop}
set_option maxHeartbeats 2000000 in
theorem refBack_ct (hz : HasRz P) (hp : HasRf9 P) {w : Int} {v : V} {rows : List (List (Int × Int))} (hs : Hs H R) (sr : RRd R v rows) (hw : i64r w) (hlen : rows.length ≤ 281474976710656) (hlr : ∀ l ∈ rows, l.length ≤ 281474976710656)
    (hQ1 : ¬ okRows w rows → ∀ H', Hs H' R → Q (.ret (.tup [.agg [.int .i64 0, .int .i64 0, .sl none 0 0 0], .int .i64 80])) H')
    (hQ2 : okRows w rows → ∀ v' H', Hs H' (BmA v' w.toNat rows.length (bkP rows) :: R) → Q (.ret (.tup [.agg [.int .i64 w, .int .i64 rows.length, v'], .int .i64 0])) H') : Call P 119 [v, .int .i64 w] H Q := by
  obtain ⟨vals, hrd⟩ := sr
  obtain ⟨a0, c0, e0, hvs⟩ := (hrd H hs).1.shape
  refine call_of hp.h_burinref9_Back rfl ?_
  have h1 := hs.alloc (l := [.int .i64 0, .int .i64 0, .sl none 0 0 0])
  rw [hvs]
  simp -implicitDefEqProofs -dsimp (disch := omega) only [go_sem, Nat.reduceEqDiff, ↓reduceIte, Nat.reduceAdd, Nat.reduceMul, Nat.reduceSub, Nat.reduceLT, Nat.reduceLeDiff, Int.reduceLT, Int.reduceLE, Int.reduceEq, Int.reduceNeg, Int.reduceAdd, Int.reduceMul, Int.reduceSub, Int.reduceToNat, reduceCtorEq, dec_t, dec_f, ]
  rw [← hvs]
  generalize H.new _ = H1 at *
  generalize H.next = b at *
  have bad : ∀ {H' : Heap} {T : List As}, Hs H' (Cel b [.int .i64 0, .int .i64 0, .sl none 0 0 0] :: T) → ∃ H'', wr H' b 0 [.int .i64 0, .int .i64 0, .sl none 0 0 0] = some H'' ∧ Hs H'' (Cel b [.int .i64 0, .int .i64 0, .sl none 0 0 0] :: T) := fun h => h.sto 0 rfl (by simp) (by simp [one])
  have hw' := hw
  unfold i64r at hw
  refine sizeR_ct hz hw' (by unfold i64r; omega) ?_
  by_cases k : sizeOk w rows.length
  rotate_left
  · rw [decide_eq_false k]
    obtain ⟨H3, e3, h3⟩ := bad h1
    have r3 := rd_bm h3 (List.mem_cons_self ..) 3 rfl
    simp -implicitDefEqProofs -dsimp (disch := omega) only [go_sem, Nat.reduceEqDiff, ↓reduceIte, Nat.reduceAdd, Nat.reduceMul, Nat.reduceSub, Nat.reduceLT, Nat.reduceLeDiff, Int.reduceLT, Int.reduceLE, Int.reduceEq, Int.reduceNeg, Int.reduceAdd, Int.reduceMul, Int.reduceSub, Int.reduceToNat, reduceCtorEq, dec_t, dec_f, e3, r3]
    exact hQ1 (fun q => k q.1) H3 h3.tail
  rw [decide_eq_true k]
  have hle := sizeOk_le k
  have hkk := k
  obtain ⟨k1, k2, k3⟩ := k
  obtain ⟨wn, rfl⟩ : ∃ n : Nat, w = n := ⟨w.toNat, by omega⟩
  simp only [Int.toNat_natCast] at hQ2
  have k4 : 1 ≤ wn ∧ 1 ≤ rows.length ∧ wn * rows.length ≤ 1048576 := ⟨by omega, by omega, by rw [← Int.natCast_mul] at k3; omega⟩
  obtain ⟨vb, vo, vc, hv1⟩ := (hrd H hs).1.at0 (by omega)
  have hv2 := hv1
  rw [hvs] at hv2
  rw [hv1]
  simp -implicitDefEqProofs -dsimp (disch := omega) only [go_sem, Nat.reduceEqDiff, ↓reduceIte, Nat.reduceAdd, Nat.reduceMul, Nat.reduceSub, Nat.reduceLT, Nat.reduceLeDiff, Int.reduceLT, Int.reduceLE, Int.reduceEq, Int.reduceNeg, Int.reduceAdd, Int.reduceMul, Int.reduceSub, Int.reduceToNat, reduceCtorEq, dec_t, dec_f, ]
  refine loop_cnt rows.length (fun y => ⟨[(0, .sl (some (vb, vo)) rows.length vc 1), (1, .int .i64 wn), (4, .ptr (some (b, 0))), (6, .int .i64 y)], []⟩)
    (fun y H => (∀ j, j < y → okRow wn (-1) (rows.getD j []) = true) ∧ Hs H (Cel b [.int .i64 0, .int .i64 0, .sl none 0 0 0] :: R)) (fun y H3 K hy ⟨hok, h3⟩ hn hx hr => ?_) 0 H1 (by omega) ⟨fun j hj => by omega, h1⟩
  by_cases he : y < rows.length
  · have hgd : rows.getD y [] = rows[y] := by simp [List.getD_eq_getElem?_getD, he]
    have hmem : rows[y] ∈ rows := List.getElem_mem _
    have hat := fun {H'} (h : Hs H' R) => rrd_at (hrd H' h) he hv1
    obtain ⟨xa, xc, xe, hvx, _, _⟩ := hat h3.tail
    have hat : ∀ {H'}, Hs H' R → rd H' none vb (vo + y) = some (.sl xa rows[y].length xc xe) ∧ Arr H' (.sl xa rows[y].length xc xe) 2 rows[y].length (rcells rows[y]) := fun {H'} h => by
      obtain ⟨a, c', e, q1, q2, q3⟩ := hat h
      cases q1.symm.trans hvx
      exact ⟨q2, q3⟩
    have hll := hlr _ hmem
    generalize hl : rows[y] = l at *
    simp -implicitDefEqProofs -dsimp (disch := omega) only [go_sem, Nat.reduceEqDiff, ↓reduceIte, Nat.reduceAdd, Nat.reduceMul, Nat.reduceSub, Nat.reduceLT, Nat.reduceLeDiff, Int.reduceLT, Int.reduceLE, Int.reduceEq, Int.reduceNeg, Int.reduceAdd, Int.reduceMul, Int.reduceSub, Int.reduceToNat, reduceCtorEq, dec_t, dec_f, burinref9_Back_l3]
    refine loop_cnt l.length (fun k => ⟨[(0, .sl (some (vb, vo)) rows.length vc 1), (1, .int .i64 wn), (4, .ptr (some (b, 0))), (6, .int .i64 y), (7, .int .i64 k)], []⟩)
      (fun k H => okRow wn (-1) (l.take k) = true ∧ Hs H (Cel b [.int .i64 0, .int .i64 0, .sl none 0 0 0] :: R)) (fun k H4 K2 hk ⟨hok2, h4⟩ hn2 hx2' hr2 => ?_) 0 H3 (by omega) ⟨rfl, h3⟩
    obtain ⟨ra, hxarr⟩ := hat h4.tail
    by_cases hkl : k < l.length
    · obtain ⟨xb, xo, xc', hxe⟩ := hxarr.at0 (by omega)
      cases hxe
      have hrr := run_rd hxarr hkl
      have htk : l.take (k + 1) = l.take k ++ [l[k]] := List.take_succ_eq_append_getElem hkl
      have hsn := okRow_snoc (w := wn) (to := -1) (a := l.take k) (r := l[k])
      rw [← htk, hok2, Bool.true_and] at hsn
      have hto1 := lastTo_ge hok2
      have hpv : 0 < k → rd H4 none xb (xo + (k - 1) * 2 + 1) = some (.int .i64 (lastTo (-1) (l.take k))) := fun k0 => by
        have e : l.take k = l.take (k - 1) ++ [l[k - 1]] := by
          have := List.take_succ_eq_append_getElem (l := l) (i := k - 1) (by omega)
          rwa [Nat.sub_add_cancel (by omega)] at this
        rw [(run_rd hxarr (i := k - 1) (by omega)).2.2, e, lastTo_snoc]
      have hpv0 : k = 0 → lastTo (-1) (l.take k) = -1 := fun e => by subst e; simp [lastTo]
      generalize hto : lastTo (-1) (l.take k) = to at *
      generalize hr' : l[k] = r at *
      have h5 := h4.alloc (l := [.int .i64 r.1, .int .i64 r.2])
      have c8 := rd_s h5.cel
      obtain ⟨ra5, hxarr5⟩ := hat h5.tail.tail
      have hpv5 : 0 < k → rd (H4.new (.cells [.int .i64 r.1, .int .i64 r.2] true)) none xb (xo + (k - 1) * 2 + 1) = some (.int .i64 to) := fun k0 => by
        have e : l.take k = l.take (k - 1) ++ [l[k - 1]] := by
          have := List.take_succ_eq_append_getElem (l := l) (i := k - 1) (by omega)
          rwa [Nat.sub_add_cancel (by omega)] at this
        rw [(run_rd hxarr5 (i := k - 1) (by omega)).2.2, ← hto, e, lastTo_snoc]
      have hno : ¬ (to < r.1 ∧ r.1 < r.2 ∧ r.2 ≤ wn) → ¬ okRows wn rows := by
        rintro hc ⟨_, q⟩
        have := okRow_take (q l hmem) (k + 1)
        rw [hsn] at this
        exact hc (of_decide_eq_true this)
      have hcut : wpC (Call P) burinref9_Back_l4 K2 ⟨[(0, .sl (some (vb, vo)) rows.length vc 1), (1, .int .i64 wn), (4, .ptr (some (b, 0))), (6, .int .i64 y), (7, .int .i64 k)], []⟩ H4 := by
        have ek : k ≠ 0 → ((k : Int) - 1) = ((k - 1 : Nat) : Int) := fun h => by omega
        by_cases hc : to < r.1 ∧ r.1 < r.2 ∧ r.2 ≤ wn
        · obtain ⟨u1, u2, u3⟩ := hc
          have hok3 : okRow wn (-1) (l.take (k + 1)) = true := by rw [hsn]; exact decide_eq_true ⟨u1, u2, u3⟩
          by_cases k0 : k = 0
          · subst k0
            simp only [Nat.zero_mul, Nat.add_zero] at hrr
            simp -implicitDefEqProofs -dsimp (disch := omega) only [go_sem, Nat.reduceEqDiff, ↓reduceIte, Nat.reduceAdd, Nat.reduceMul, Nat.reduceSub, Nat.reduceLT, Nat.reduceLeDiff, Int.reduceLT, Int.reduceLE, Int.reduceEq, Int.reduceNeg, Int.reduceAdd, Int.reduceMul, Int.reduceSub, Int.reduceToNat, reduceCtorEq, dec_t, dec_f, burinref9_Back_l4, Int.toNat_natCast, Nat.mul_one, ra, hrr, c8, w64, cadd1]
            exact hn2 hkl _ ⟨hok3, h5.tail⟩
          · have hpv5 := hpv5 (by omega)
            have ek := ek k0
            simp -implicitDefEqProofs -dsimp (disch := omega) only [go_sem, Nat.reduceEqDiff, ↓reduceIte, Nat.reduceAdd, Nat.reduceMul, Nat.reduceSub, Nat.reduceLT, Nat.reduceLeDiff, Int.reduceLT, Int.reduceLE, Int.reduceEq, Int.reduceNeg, Int.reduceAdd, Int.reduceMul, Int.reduceSub, Int.reduceToNat, reduceCtorEq, dec_t, dec_f, burinref9_Back_l4, Int.toNat_natCast, Nat.mul_one, ra, hrr, c8, w64, cadd1, ra5, ek, hpv5]
            exact hn2 hkl _ ⟨hok3, h5.tail⟩
        · have hno := hno hc
          obtain ⟨H6, e6, h6⟩ := bad (h5.foc 1 rfl)
          have r6 := rd_bm h6 (List.mem_cons_self ..) 3 rfl
          have done : K2 .ret ⟨[(4, .ptr (some (b, 0))), (5, .int .i64 80)], []⟩ H6 := by
            rw [hr2]
            simp -implicitDefEqProofs -dsimp (disch := omega) only [go_sem, Nat.reduceEqDiff, ↓reduceIte, Nat.reduceAdd, Nat.reduceMul, Nat.reduceSub, Nat.reduceLT, Nat.reduceLeDiff, Int.reduceLT, Int.reduceLE, Int.reduceEq, Int.reduceNeg, Int.reduceAdd, Int.reduceMul, Int.reduceSub, Int.reduceToNat, reduceCtorEq, dec_t, dec_f, ]
            rw [hr]
            simp -implicitDefEqProofs -dsimp (disch := omega) only [go_sem, Nat.reduceEqDiff, ↓reduceIte, Nat.reduceAdd, Nat.reduceMul, Nat.reduceSub, Nat.reduceLT, Nat.reduceLeDiff, Int.reduceLT, Int.reduceLE, Int.reduceEq, Int.reduceNeg, Int.reduceAdd, Int.reduceMul, Int.reduceSub, Int.reduceToNat, reduceCtorEq, dec_t, dec_f, r6]
            exact hQ1 hno H6 h6.tail.tail
          have hrr0 := hrr
          rcases (show r.1 < 0 ∨ (0 ≤ r.1 ∧ (wn : Int) < r.2) ∨ (0 ≤ r.1 ∧ r.2 ≤ wn ∧ r.2 ≤ r.1) ∨ (0 ≤ r.1 ∧ r.2 ≤ wn ∧ r.1 < r.2 ∧ r.1 ≤ to) by omega) with d | d | d | d
          · simp -implicitDefEqProofs -dsimp (disch := omega) only [go_sem, Nat.reduceEqDiff, ↓reduceIte, Nat.reduceAdd, Nat.reduceMul, Nat.reduceSub, Nat.reduceLT, Nat.reduceLeDiff, Int.reduceLT, Int.reduceLE, Int.reduceEq, Int.reduceNeg, Int.reduceAdd, Int.reduceMul, Int.reduceSub, Int.reduceToNat, reduceCtorEq, dec_t, dec_f, burinref9_Back_l4, Int.toNat_natCast, Nat.mul_one, ra, hrr, c8, w64, e6]
            exact done
          · simp -implicitDefEqProofs -dsimp (disch := omega) only [go_sem, Nat.reduceEqDiff, ↓reduceIte, Nat.reduceAdd, Nat.reduceMul, Nat.reduceSub, Nat.reduceLT, Nat.reduceLeDiff, Int.reduceLT, Int.reduceLE, Int.reduceEq, Int.reduceNeg, Int.reduceAdd, Int.reduceMul, Int.reduceSub, Int.reduceToNat, reduceCtorEq, dec_t, dec_f, burinref9_Back_l4, Int.toNat_natCast, Nat.mul_one, ra, hrr, c8, w64, e6]
            exact done
          · simp -implicitDefEqProofs -dsimp (disch := omega) only [go_sem, Nat.reduceEqDiff, ↓reduceIte, Nat.reduceAdd, Nat.reduceMul, Nat.reduceSub, Nat.reduceLT, Nat.reduceLeDiff, Int.reduceLT, Int.reduceLE, Int.reduceEq, Int.reduceNeg, Int.reduceAdd, Int.reduceMul, Int.reduceSub, Int.reduceToNat, reduceCtorEq, dec_t, dec_f, burinref9_Back_l4, Int.toNat_natCast, Nat.mul_one, ra, hrr, c8, w64, e6]
            exact done
          · have k0 : k ≠ 0 := fun e => by have := hpv0 e; omega
            have hpv5 := hpv5 (by omega)
            have ek := ek k0
            simp -implicitDefEqProofs -dsimp (disch := omega) only [go_sem, Nat.reduceEqDiff, ↓reduceIte, Nat.reduceAdd, Nat.reduceMul, Nat.reduceSub, Nat.reduceLT, Nat.reduceLeDiff, Int.reduceLT, Int.reduceLE, Int.reduceEq, Int.reduceNeg, Int.reduceAdd, Int.reduceMul, Int.reduceSub, Int.reduceToNat, reduceCtorEq, dec_t, dec_f, burinref9_Back_l4, Int.toNat_natCast, Nat.mul_one, ra, hrr, c8, w64, ra5, ek, hpv5, e6]
            exact done
      exact hcut
    · obtain rfl : k = l.length := by omega
      simp -implicitDefEqProofs -dsimp (disch := omega) only [go_sem, Nat.reduceEqDiff, ↓reduceIte, Nat.reduceAdd, Nat.reduceMul, Nat.reduceSub, Nat.reduceLT, Nat.reduceLeDiff, Int.reduceLT, Int.reduceLE, Int.reduceEq, Int.reduceNeg, Int.reduceAdd, Int.reduceMul, Int.reduceSub, Int.reduceToNat, reduceCtorEq, dec_t, dec_f, burinref9_Back_l4, Int.toNat_natCast, Nat.mul_one, ra]
      rw [hx2']
      simp -implicitDefEqProofs -dsimp (disch := omega) only [go_sem, Nat.reduceEqDiff, ↓reduceIte, Nat.reduceAdd, Nat.reduceMul, Nat.reduceSub, Nat.reduceLT, Nat.reduceLeDiff, Int.reduceLT, Int.reduceLE, Int.reduceEq, Int.reduceNeg, Int.reduceAdd, Int.reduceMul, Int.reduceSub, Int.reduceToNat, reduceCtorEq, dec_t, dec_f, w64, cadd1]
      rw [List.take_length] at hok2
      refine hn he H4 ⟨fun j hj => ?_, h4⟩
      by_cases e : j = y
      · subst e; rw [hgd]; exact hok2
      · exact hok j (by omega)
  · obtain rfl : y = rows.length := by omega
    simp -implicitDefEqProofs -dsimp (disch := omega) only [go_sem, Nat.reduceEqDiff, ↓reduceIte, Nat.reduceAdd, Nat.reduceMul, Nat.reduceSub, Nat.reduceLT, Nat.reduceLeDiff, Int.reduceLT, Int.reduceLE, Int.reduceEq, Int.reduceNeg, Int.reduceAdd, Int.reduceMul, Int.reduceSub, Int.reduceToNat, reduceCtorEq, dec_t, dec_f, burinref9_Back_l3]
    rw [hx]
    simp -implicitDefEqProofs -dsimp (disch := omega) only [go_sem, Nat.reduceEqDiff, ↓reduceIte, Nat.reduceAdd, Nat.reduceMul, Nat.reduceSub, Nat.reduceLT, Nat.reduceLeDiff, Int.reduceLT, Int.reduceLE, Int.reduceEq, Int.reduceNeg, Int.reduceAdd, Int.reduceMul, Int.reduceSub, Int.reduceToNat, reduceCtorEq, dec_t, dec_f, ]
    have hokr : okRows wn rows := ⟨hkk, fun l hl => by
      obtain ⟨i, hi, rfl⟩ := List.getElem_of_mem hl
      have := hok i hi
      simpa [List.getD_eq_getElem?_getD, hi] using this⟩
    refine white_ct hz h3 k4 fun ov H4 h4 _ => ?_
    obtain ⟨vb2, kv⟩ := bmV h4
    have h5 := h4.alloc (l := [.int .i64 wn, .int .i64 (rows.length : Nat), ov])
    have hv := kv.val
    rw [hv] at h5 ⊢
    simp -implicitDefEqProofs -dsimp (disch := omega) only [go_sem, Nat.reduceEqDiff, ↓reduceIte, Nat.reduceAdd, Nat.reduceMul, Nat.reduceSub, Nat.reduceLT, Nat.reduceLeDiff, Int.reduceLT, Int.reduceLE, Int.reduceEq, Int.reduceNeg, Int.reduceAdd, Int.reduceMul, Int.reduceSub, Int.reduceToNat, reduceCtorEq, dec_t, dec_f, ]
    rw [← hv] at h5 ⊢
    clear kv
    generalize H4.new _ = H5 at *
    generalize H4.next = b9 at *
    refine loop_cnt rows.length (fun y => ⟨[(0, .sl (some (vb, vo)) rows.length vc 1), (4, .ptr (some (b, 0))), (9, .ptr (some (b9, 0))), (10, .int .i64 y)], []⟩)
      (fun y H => Hs H (BmA ov wn rows.length (bkQ rows y 0) :: Cel b9 [.int .i64 wn, .int .i64 (rows.length : Nat), ov] :: Cel b [.int .i64 0, .int .i64 0, .sl none 0 0 0] :: R)) (fun y H6 K hy h6 hn hx hr => ?_) 0 H5 (by omega) (h5.p1.bmc fun i j _ _ => by simp [bkQ, inR])
    by_cases he : y < rows.length
    · have hgd : rows.getD y [] = rows[y] := by simp [List.getD_eq_getElem?_getD, he]
      have hmem : rows[y] ∈ rows := List.getElem_mem _
      have hat := fun {H'} (h : Hs H' R) => rrd_at (hrd H' h) he hv1
      obtain ⟨xa, xc, xe, hvx, _, _⟩ := hat h6.tail.tail.tail
      have hat : ∀ {H'}, Hs H' R → rd H' none vb (vo + y) = some (.sl xa rows[y].length xc xe) ∧ Arr H' (.sl xa rows[y].length xc xe) 2 rows[y].length (rcells rows[y]) := fun {H'} h => by
        obtain ⟨a, c', e, q1, q2, q3⟩ := hat h
        cases q1.symm.trans hvx
        exact ⟨q2, q3⟩
      have hll := hlr _ hmem
      have hokl := hokr.2 _ hmem
      generalize hl : rows[y] = l at *
      simp -implicitDefEqProofs -dsimp (disch := omega) only [go_sem, Nat.reduceEqDiff, ↓reduceIte, Nat.reduceAdd, Nat.reduceMul, Nat.reduceSub, Nat.reduceLT, Nat.reduceLeDiff, Int.reduceLT, Int.reduceLE, Int.reduceEq, Int.reduceNeg, Int.reduceAdd, Int.reduceMul, Int.reduceSub, Int.reduceToNat, reduceCtorEq, dec_t, dec_f, burinref9_Back_l0]
      refine loop_cnt l.length (fun k => ⟨[(0, .sl (some (vb, vo)) rows.length vc 1), (4, .ptr (some (b, 0))), (9, .ptr (some (b9, 0))), (10, .int .i64 y), (11, .int .i64 k)], []⟩)
        (fun k H => Hs H (BmA ov wn rows.length (bkQ rows y k) :: Cel b9 [.int .i64 wn, .int .i64 (rows.length : Nat), ov] :: Cel b [.int .i64 0, .int .i64 0, .sl none 0 0 0] :: R)) (fun k H7 K2 hk h7 hn2 hx2' hr2 => ?_) 0 H6 (by omega) h6
      obtain ⟨ra, hxarr⟩ := hat h7.tail.tail.tail
      by_cases hkl : k < l.length
      · obtain ⟨xb, xo, xc', hxe⟩ := hxarr.at0 (by omega)
        cases hxe
        have hrr := run_rd hxarr hkl
        have htk : l.take (k + 1) = l.take k ++ [l[k]] := List.take_succ_eq_append_getElem hkl
        have hto1 := lastTo_ge (okRow_take hokl k)
        obtain ⟨u1, u2, u3⟩ := okRow_at hokl hkl
        have hrdk : ∀ {H'}, Hs H' R → rd H' none xb (xo + k * 2 + 1) = some (.int .i64 l[k].2) := fun h => (run_rd (hat h).2 hkl).2.2
        generalize hr' : l[k] = r at *
        obtain ⟨a, ha⟩ : ∃ a : Nat, r.1 = a := ⟨r.1.toNat, by omega⟩
        obtain ⟨t, ht⟩ : ∃ t : Nat, r.2 = t := ⟨r.2.toNat, by omega⟩
        rw [ha, ht] at hrr
        simp -implicitDefEqProofs -dsimp (disch := omega) only [go_sem, Nat.reduceEqDiff, ↓reduceIte, Nat.reduceAdd, Nat.reduceMul, Nat.reduceSub, Nat.reduceLT, Nat.reduceLeDiff, Int.reduceLT, Int.reduceLE, Int.reduceEq, Int.reduceNeg, Int.reduceAdd, Int.reduceMul, Int.reduceSub, Int.reduceToNat, reduceCtorEq, dec_t, dec_f, burinref9_Back_l1, Int.toNat_natCast, Nat.mul_one, ra, hrr]
        refine loop_cnt t (fun x => ⟨[(0, .sl (some (vb, vo)) rows.length vc 1), (4, .ptr (some (b, 0))), (9, .ptr (some (b9, 0))), (10, .int .i64 y), (11, .int .i64 k), (12, .int .i64 x)], []⟩)
          (fun x H => a ≤ x ∧ Hs H (BmA ov wn rows.length (bkX rows y k a x) :: Cel b9 [.int .i64 wn, .int .i64 (rows.length : Nat), ov] :: Cel b [.int .i64 0, .int .i64 0, .sl none 0 0 0] :: R)) (fun x H8 K3 hxx ⟨hax, h8⟩ hn3 hx3 hr3 => ?_) a H7 (by omega) ⟨Nat.le_refl _, h7.bmc fun i j _ _ => ?_⟩
        rotate_left
        · unfold bkX; rw [show decide ((a : Int) ≤ i ∧ (i : Int) < a) = false from decide_eq_false (by omega)]; simp
        have ra := (hat h8.tail.tail.tail).1
        have rk := hrdk h8.tail.tail.tail
        rw [ht] at rk
        by_cases hxt : x < t
        · have r9 := rd_bm h8 (b := b9) (l := [.int .i64 wn, .int .i64 (rows.length : Nat), ov]) (by simp) 3 rfl
          simp -implicitDefEqProofs -dsimp (disch := omega) only [go_sem, Nat.reduceEqDiff, ↓reduceIte, Nat.reduceAdd, Nat.reduceMul, Nat.reduceSub, Nat.reduceLT, Nat.reduceLeDiff, Int.reduceLT, Int.reduceLE, Int.reduceEq, Int.reduceNeg, Int.reduceAdd, Int.reduceMul, Int.reduceSub, Int.reduceToNat, reduceCtorEq, dec_t, dec_f, burinref9_Back_l2, Int.toNat_natCast, Nat.mul_one, ra, rk, r9]
          refine putR_ct hz h8 (x := x) (y := y) (by omega) he fun H9 h9 => ?_
          simp -implicitDefEqProofs -dsimp (disch := omega) only [go_sem, Nat.reduceEqDiff, ↓reduceIte, Nat.reduceAdd, Nat.reduceMul, Nat.reduceSub, Nat.reduceLT, Nat.reduceLeDiff, Int.reduceLT, Int.reduceLE, Int.reduceEq, Int.reduceNeg, Int.reduceAdd, Int.reduceMul, Int.reduceSub, Int.reduceToNat, reduceCtorEq, dec_t, dec_f, w64, cadd1]
          refine hn3 hxt H9 ⟨by omega, h9.bmc fun i j hi hj => ?_⟩
          unfold updP bkX
          by_cases e : i = x ∧ j = y
          · obtain ⟨rfl, rfl⟩ := e
            rw [if_pos ⟨rfl, rfl⟩, show decide ((a : Int) ≤ i ∧ (i : Int) < ((i + 1 : Nat) : Int)) = true from decide_eq_true (by omega)]
            simp
          · rw [if_neg e]
            by_cases ej : j = y
            · subst ej
              congr 2
              exact decide_eq_decide.2 (by omega)
            · rw [decide_eq_false ej, Bool.false_and, Bool.false_and]
        · obtain rfl : x = t := by omega
          simp -implicitDefEqProofs -dsimp (disch := omega) only [go_sem, Nat.reduceEqDiff, ↓reduceIte, Nat.reduceAdd, Nat.reduceMul, Nat.reduceSub, Nat.reduceLT, Nat.reduceLeDiff, Int.reduceLT, Int.reduceLE, Int.reduceEq, Int.reduceNeg, Int.reduceAdd, Int.reduceMul, Int.reduceSub, Int.reduceToNat, reduceCtorEq, dec_t, dec_f, burinref9_Back_l2, Int.toNat_natCast, Nat.mul_one, ra, rk]
          rw [hx3]
          simp -implicitDefEqProofs -dsimp (disch := omega) only [go_sem, Nat.reduceEqDiff, ↓reduceIte, Nat.reduceAdd, Nat.reduceMul, Nat.reduceSub, Nat.reduceLT, Nat.reduceLeDiff, Int.reduceLT, Int.reduceLE, Int.reduceEq, Int.reduceNeg, Int.reduceAdd, Int.reduceMul, Int.reduceSub, Int.reduceToNat, reduceCtorEq, dec_t, dec_f, w64, cadd1]
          refine hn2 hkl H8 (h8.bmc fun i j hi hj => ?_)
          unfold bkX bkQ
          by_cases e : j = y
          · subst e
            rw [hgd, htk, inR_snoc, ha, ht]
            simp
          · rw [decide_eq_false e]; simp
      · obtain rfl : k = l.length := by omega
        simp -implicitDefEqProofs -dsimp (disch := omega) only [go_sem, Nat.reduceEqDiff, ↓reduceIte, Nat.reduceAdd, Nat.reduceMul, Nat.reduceSub, Nat.reduceLT, Nat.reduceLeDiff, Int.reduceLT, Int.reduceLE, Int.reduceEq, Int.reduceNeg, Int.reduceAdd, Int.reduceMul, Int.reduceSub, Int.reduceToNat, reduceCtorEq, dec_t, dec_f, burinref9_Back_l1, Int.toNat_natCast, Nat.mul_one, ra]
        rw [hx2']
        simp -implicitDefEqProofs -dsimp (disch := omega) only [go_sem, Nat.reduceEqDiff, ↓reduceIte, Nat.reduceAdd, Nat.reduceMul, Nat.reduceSub, Nat.reduceLT, Nat.reduceLeDiff, Int.reduceLT, Int.reduceLE, Int.reduceEq, Int.reduceNeg, Int.reduceAdd, Int.reduceMul, Int.reduceSub, Int.reduceToNat, reduceCtorEq, dec_t, dec_f, w64, cadd1]
        refine hn he H7 (h7.bmc fun i j _ _ => ?_)
        unfold bkQ
        simp only [List.take_zero]
        by_cases e : j = y
        · subst e; rw [hgd, List.take_length]; simp [inR]
        · rw [decide_eq_false e, show decide (j < y + 1) = decide (j < y) from decide_eq_decide.2 (by omega)]
          simp [inR]
    · obtain rfl : y = rows.length := by omega
      simp -implicitDefEqProofs -dsimp (disch := omega) only [go_sem, Nat.reduceEqDiff, ↓reduceIte, Nat.reduceAdd, Nat.reduceMul, Nat.reduceSub, Nat.reduceLT, Nat.reduceLeDiff, Int.reduceLT, Int.reduceLE, Int.reduceEq, Int.reduceNeg, Int.reduceAdd, Int.reduceMul, Int.reduceSub, Int.reduceToNat, reduceCtorEq, dec_t, dec_f, burinref9_Back_l0]
      rw [hx]
      have r9 := rd_bm h6 (b := b9) (l := [.int .i64 wn, .int .i64 (rows.length : Nat), ov]) (by simp) 3 rfl
      obtain ⟨H7, e7, h7⟩ := h6.sto 2 (o := 0) (vs := [.int .i64 wn, .int .i64 (rows.length : Nat), ov]) rfl (by simp) (by rw [hv]; simp [one])
      have r7 := rd_bm h7 (b := b) (l := [.int .i64 wn, .int .i64 (rows.length : Nat), ov]) (by simp [over]) 3 rfl
      simp -implicitDefEqProofs -dsimp (disch := omega) only [go_sem, Nat.reduceEqDiff, ↓reduceIte, Nat.reduceAdd, Nat.reduceMul, Nat.reduceSub, Nat.reduceLT, Nat.reduceLeDiff, Int.reduceLT, Int.reduceLE, Int.reduceEq, Int.reduceNeg, Int.reduceAdd, Int.reduceMul, Int.reduceSub, Int.reduceToNat, reduceCtorEq, dec_t, dec_f, r9, e7, r7]
      refine hQ2 hokr ov H7 (Hs.bmc (p := bkQ rows rows.length 0) h7.tail2.tail2 fun i j _ hj => ?_)
      simp [bkQ, bkP, inR, hj]
end
end Go.Ab
