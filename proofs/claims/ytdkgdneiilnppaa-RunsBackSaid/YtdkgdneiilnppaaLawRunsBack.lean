/- The law RunsBack. Conditions: none. -/
import Derived.Test.YtdkgdneiilnppaaRh
import Derived.Test.YtdkgdneiilnppaaPL9Back
set_option linter.all false
namespace Go.Ab
structure HasL9 (P : Prog) : Prop where
  bm : HasBm P
  rz : HasRz P
  ru : HasRu P
  rf : HasRf9 P
abbrev rwTD : TD := .agg [.sl 24 (.sl 16 runTD), .int .i64]
structure RwO where
  v : V
  rows : List (List (Int × Int))
  w : Int
def RwO.cs (o : RwO) : List V := [o.v, .int .i64 o.w]
structure RwOk (H : Heap) (o : RwO) : Prop where
  rows : RowsAt H o.v o.rows
  w : i64r o.w
  len : o.rows.length ≤ 8796093022208
  each : ∀ l ∈ o.rows, l.length ≤ 8796093022208
def rwCells (l : List RwO) : List V := l.flatMap RwO.cs
theorem rwCells_at : ∀ {l : List RwO} {i : Nat} (hi : i < l.length), ((rwCells l).drop (i * 2)).take 2 = l[i].cs
  | o :: l, 0, _ => by simp [rwCells, RwO.cs]
  | o :: l, i + 1, hi => by
    have := rwCells_at (l := l) (i := i) (by simpa using hi)
    rw [show (i + 1) * 2 = 2 + i * 2 by omega, ← List.drop_drop]
    simpa [rwCells, RwO.cs] using this
theorem split_rw {H : Heap} : ∀ {xs : List (TD.Ty rwTD)} {L : List V}, Split (Is H rwTD) L xs → ∃ l : List RwO, L = rwCells l ∧ l.length = List.length xs ∧ ∀ o ∈ l, RwOk H o
  | [], _, h => ⟨[], h, rfl, fun _ h => by cases h⟩
  | x :: xs, L, ⟨a, b, e, h1, h2⟩ => by
    obtain ⟨l, h3, h4, h5⟩ := split_rw h2
    obtain ⟨a1, r1, e1, g1, a2, r2, e2, ⟨g2, g3⟩, g4⟩ := h1
    obtain ⟨v, rows, k1, k2, k3, k4⟩ := is_rows g1
    refine ⟨⟨v, rows, x.2.1⟩ :: l, by rw [e, h3, e1, k1, e2, g2, show r2 = [] from g4]; rfl, by simp [h4], fun q hq => ?_⟩
    rcases List.mem_cons.1 hq with rfl | hq
    · exact ⟨k2, g3, k4, k3⟩
    · exact h5 q hq
theorem rw_at {H : Heap} {b o c : Nat} {l : List RwO} (h : Arr H (.sl (some (b, o)) l.length c 2) 2 l.length (rwCells l)) {i : Nat} (hi : i < l.length) : rd H none b (o + i * 2) = some l[i].v ∧ rd H none b (o + i * 2 + 1) = some (.int .i64 l[i].w) := by
  have k := rwCells_at hi
  constructor
  · have := h.rdm hi (k := 0) (by omega)
    rw [Nat.add_zero, Nat.add_zero] at this
    rw [this, show (rwCells l)[i * 2]? = (((rwCells l).drop (i * 2)).take 2)[0]? by simp [List.getElem?_take, List.getElem?_drop], k]; rfl
  · rw [h.rdm hi (k := 1) (by omega), show (rwCells l)[i * 2 + 1]? = (((rwCells l).drop (i * 2)).take 2)[1]? by simp [List.getElem?_take, List.getElem?_drop], k]; rfl
def BkR (w : Int) (rows : List (List (Int × Int))) (e bw bh : Int) (ws : List Nat) : Prop := (okRows w rows ∧ e = 0 ∧ bw = w ∧ bh = rows.length ∧ ws = Wds w.toNat rows.length (bkP rows)) ∨ (¬ okRows w rows ∧ e = 80 ∧ bw = 0 ∧ bh = 0 ∧ ws = [])
theorem BkR.det {w : Int} {rows : List (List (Int × Int))} {e bw bh e' bw' bh' : Int} {ws ws' : List Nat} (a : BkR w rows e bw bh ws) (b : BkR w rows e' bw' bh' ws') : e = e' ∧ bw = bw' ∧ bh = bh' ∧ ws = ws' := by
  rcases a with ⟨a1, a2, a3, a4, a5⟩ | ⟨a1, a2, a3, a4, a5⟩ <;> rcases b with ⟨b1, b2, b3, b4, b5⟩ | ⟨b1, b2, b3, b4, b5⟩
  · exact ⟨a2.trans b2.symm, a3.trans b3.symm, a4.trans b4.symm, a5.trans b5.symm⟩
  · exact absurd a1 b1
  · exact absurd b1 a1
  · exact ⟨a2.trans b2.symm, a3.trans b3.symm, a4.trans b4.symm, a5.trans b5.symm⟩
theorem BkR.len {w : Int} {rows : List (List (Int × Int))} {e bw bh : Int} {ws : List Nat} (a : BkR w rows e bw bh ws) : ws.length ≤ 281474976710656 := by
  rcases a with ⟨a1, a2, a3, a4, rfl⟩ | ⟨a1, a2, a3, a4, rfl⟩
  · obtain ⟨⟨k1, k2, k3⟩, _⟩ := a1
    obtain ⟨wn, rfl⟩ : ∃ n : Nat, w = n := ⟨w.toNat, by omega⟩
    have := wds_le (w := wn) (h := rows.length) (by rw [← Int.natCast_mul] at k3; omega) (by omega)
    rw [Wds_length, Int.toNat_natCast]; omega
  · simp
section
variable {P : Prog} {H : Heap} {R : List As} {Q : Out → Heap → Prop}
theorem runsBackR (hb : HasBm P) (hp : HasRu P) {w : Int} {v : V} {rows : List (List (Int × Int))} (hs : Hs H R) (sr : RRd R v rows) (hw : i64r w) (hlen : rows.length ≤ 281474976710656) (hlr : ∀ l ∈ rows, l.length ≤ 281474976710656)
    (hQ : ∀ v' ws bw bh e H', BkR w rows e bw bh ws → Hs H' (Lst v' 1 ws.length (u64s ws) :: R) → Q (.ret (.tup [.agg [.int .i64 bw, .int .i64 bh, v'], .int .i64 e])) H') : Call P 116 [v, .int .i64 w] H Q :=
  runsBack_ct hb hp hs sr hw hlen hlr (fun k H' h' => hQ _ [] 0 0 80 H' (Or.inr ⟨k, rfl, rfl, rfl, rfl⟩) (h'.lst (Same.refl _ _) (own_nil _ 1) fun _ h => h.elim)) fun k v' H' h' => hQ v' _ w _ 0 H' (Or.inl ⟨k, rfl, rfl, rfl, rfl⟩) h'.bml
theorem refBackR (hz : HasRz P) (hp : HasRf9 P) {w : Int} {v : V} {rows : List (List (Int × Int))} (hs : Hs H R) (sr : RRd R v rows) (hw : i64r w) (hlen : rows.length ≤ 281474976710656) (hlr : ∀ l ∈ rows, l.length ≤ 281474976710656)
    (hQ : ∀ v' ws bw bh e H', BkR w rows e bw bh ws → Hs H' (Lst v' 1 ws.length (u64s ws) :: R) → Q (.ret (.tup [.agg [.int .i64 bw, .int .i64 bh, v'], .int .i64 e])) H') : Call P 119 [v, .int .i64 w] H Q :=
  refBack_ct hz hp hs sr hw hlen hlr (fun k H' h' => hQ _ [] 0 0 80 H' (Or.inr ⟨k, rfl, rfl, rfl, rfl⟩) (h'.lst (Same.refl _ _) (own_nil _ 1) fun _ h => h.elim)) fun k v' H' h' => hQ v' _ w _ 0 H' (Or.inl ⟨k, rfl, rfl, rfl, rfl⟩) h'.bml
end
set_option maxHeartbeats 1000000 in
theorem runsBackL {P : Prog} (hp : HasL9 P) (hg : P 124 = some burinlaw9_RunsBack) {H : Heap} {v : V} {l : List RwO} (hv : Arr H v 2 l.length (rwCells l)) (ho : ∀ o ∈ l, RwOk H o) (hl : l.length ≤ 140737488351232) :
    Call P 124 [v] H fun o _ => o = .ret (.bool true) := by
  refine call_of hg rfl ?_
  obtain ⟨va, vc, ve, hvs⟩ := hv.shape
  simp -implicitDefEqProofs -dsimp (disch := omega) only [go_sem, Nat.reduceEqDiff, ↓reduceIte, Nat.reduceAdd, Nat.reduceMul, Nat.reduceSub, Nat.reduceLT, Nat.reduceLeDiff, Int.reduceLT, Int.reduceLE, Int.reduceEq, Int.reduceNeg, Int.reduceAdd, Int.reduceMul, Int.reduceSub, Int.reduceToNat, reduceCtorEq, dec_t, dec_f, ]
  refine loop_cnt (min l.length 6) (fun i => ⟨[(0, v), (3, .int .i64 i)], []⟩) (fun i H' => Hs H' [Bas H]) (fun i H1 K hi h1 hn hx hrr => ?_) 0 H (by omega) (Hs.start H)
  by_cases hil : i < l.length ∧ i < 6
  · obtain ⟨d1, d2⟩ := hil
    obtain ⟨vb, vo, vc', hve⟩ := hv.at0 (by omega)
    have rdo := fun {H' : Heap} {R : List As} (h : Hs H' R) (hm : Bas H ∈ R) => rw_at (by rw [hve] at hv; exact hv.same (h.bas hm) fun _ _ h => h) d1
    obtain ⟨ra, rb⟩ := rdo h1 (by simp)
    have ko := ho l[i] (List.getElem_mem _)
    generalize l[i] = o at *
    have hrr2 := fun {R : List As} (hm : Bas H ∈ R) => ko.rows.rrd hm
    obtain ⟨oa, oc, oe, hov⟩ : ∃ a c e, o.v = .sl a o.rows.length c e := by obtain ⟨vals, k1, _⟩ := ko.rows; exact k1.shape
    have nxt := fun H' h' => hn (by omega) H' h'
    have hkw := ko.w
    have hkl := ko.len
    unfold i64r at hkw
    rw [hve] at nxt ⊢
    rw [hov] at ra
    simp -implicitDefEqProofs -dsimp (disch := omega) only [go_sem, Nat.reduceEqDiff, ↓reduceIte, Nat.reduceAdd, Nat.reduceMul, Nat.reduceSub, Nat.reduceLT, Nat.reduceLeDiff, Int.reduceLT, Int.reduceLE, Int.reduceEq, Int.reduceNeg, Int.reduceAdd, Int.reduceMul, Int.reduceSub, Int.reduceToNat, reduceCtorEq, dec_t, dec_f, burinlaw9_RunsBack_l0, Int.toNat_natCast, rb, ra]
    refine sizeR_ct hp.rz ko.w (by unfold i64r; omega) ?_
    by_cases hs : sizeOk o.w o.rows.length
    · have hle := sizeOk_le hs
      obtain ⟨s1, s2, s3⟩ := hs
      have e3 : (o.w + 64) * (o.rows.length : Int) = o.w * (o.rows.length : Int) + 64 * (o.rows.length : Int) := Int.add_mul _ _ _
      have s0 : 0 ≤ o.w * (o.rows.length : Int) := Int.mul_nonneg (by omega) (by omega)
      rw [decide_eq_true (show sizeOk o.w o.rows.length from ⟨s1, s2, s3⟩)]
      by_cases big : 60000 < (o.w + 64) * (o.rows.length : Int)
      · simp -implicitDefEqProofs -dsimp (disch := omega) only [go_sem, Nat.reduceEqDiff, ↓reduceIte, Nat.reduceAdd, Nat.reduceMul, Nat.reduceSub, Nat.reduceLT, Nat.reduceLeDiff, Int.reduceLT, Int.reduceLE, Int.reduceEq, Int.reduceNeg, Int.reduceAdd, Int.reduceMul, Int.reduceSub, Int.reduceToNat, reduceCtorEq, dec_t, dec_f, Int.toNat_natCast, rb, ra, w64, cadd1]
        exact nxt H1 h1
      · simp -implicitDefEqProofs -dsimp (disch := omega) only [go_sem, Nat.reduceEqDiff, ↓reduceIte, Nat.reduceAdd, Nat.reduceMul, Nat.reduceSub, Nat.reduceLT, Nat.reduceLeDiff, Int.reduceLT, Int.reduceLE, Int.reduceEq, Int.reduceNeg, Int.reduceAdd, Int.reduceMul, Int.reduceSub, Int.reduceToNat, reduceCtorEq, dec_t, dec_f, Int.toNat_natCast, rb, ra, w64, cadd1]
        rw [← hov]
        have h2 := h1.alloc (l := [.int .i64 0, .int .i64 0, .sl none 0 0 0])
        generalize H1.new _ = H2 at *
        generalize H1.next = b4 at *
        refine runsBackR hp.bm hp.ru h2 (hrr2 (by simp)) ko.w (by omega) (fun q hq => by have := ko.each q hq; omega) fun v1 ws1 bw1 bh1 e1 H3 hr1 h3 => ?_
        have c4 := h3.p1.cel
        refine aft_intro (t := tag _) (by simp [rechecks, recheck, fresh, Fr.get, Fr.put, look, step, opd, c4]) ?_
        obtain ⟨v1a, v1c, v1e, hv1⟩ := h3.own.arr.shape
        obtain ⟨H4, w4, h4⟩ := h3.sto 1 (o := 0) (vs := [.int .i64 bw1, .int .i64 bh1, v1]) rfl (by simp) (by rw [hv1]; simp [one])
        have h5 := h4.alloc (l := [.int .i64 0, .int .i64 0, .sl none 0 0 0])
        obtain ⟨ra, rb⟩ := rdo h4 (by simp)
        rw [hov] at ra
        rw [hv1] at w4 ⊢
        simp -implicitDefEqProofs -dsimp (disch := omega) only [go_sem, Nat.reduceEqDiff, ↓reduceIte, Nat.reduceAdd, Nat.reduceMul, Nat.reduceSub, Nat.reduceLT, Nat.reduceLeDiff, Int.reduceLT, Int.reduceLE, Int.reduceEq, Int.reduceNeg, Int.reduceAdd, Int.reduceMul, Int.reduceSub, Int.reduceToNat, reduceCtorEq, dec_t, dec_f, w4, Int.toNat_natCast, rb, ra]
        try rw [← hv1]
        generalize H4.new _ = H5 at *
        generalize H4.next = b6 at *
        rw [← hov]
        refine refBackR hp.rz hp.rf h5 (hrr2 (by simp)) ko.w (by omega) (fun q hq => by have := ko.each q hq; omega) fun v2 ws2 bw2 bh2 e2 H6 hr2' h6 => ?_
        obtain ⟨rfl, rfl, rfl, rfl⟩ := hr1.det hr2'
        have c6 := h6.p1.cel
        refine aft_intro (t := tag _) (by simp [rechecks, recheck, fresh, Fr.get, Fr.put, look, step, opd, c6]) ?_
        obtain ⟨v2a, v2c, v2e, hv2⟩ := h6.own.arr.shape
        obtain ⟨H7, w7, h7⟩ := h6.sto 1 (o := 0) (vs := [.int .i64 bw1, .int .i64 bh1, v2]) rfl (by simp) (by rw [hv2]; simp [one])
        have r4 := rd_bm h7 (b := b4) (l := [.int .i64 bw1, .int .i64 bh1, v1]) (by simp [over]) 3 rfl
        have r6 := rd_bm h7 (b := b6) (l := [.int .i64 bw1, .int .i64 bh1, v2]) (by simp [over]) 3 rfl
        rw [hv2] at w7 r6 ⊢
        simp -implicitDefEqProofs -dsimp (disch := omega) only [go_sem, Nat.reduceEqDiff, ↓reduceIte, Nat.reduceAdd, Nat.reduceMul, Nat.reduceSub, Nat.reduceLT, Nat.reduceLeDiff, Int.reduceLT, Int.reduceLE, Int.reduceEq, Int.reduceNeg, Int.reduceAdd, Int.reduceMul, Int.reduceSub, Int.reduceToNat, reduceCtorEq, dec_t, dec_f, w7, r4, r6]
        try rw [← hv2]
        refine eqb_ct hp.rz h7 ((h7.ownm (v := v1) (e := 1) (n := ws1.length) (l := u64s ws1) (by simp)).arr) ((h7.ownm (v := v2) (e := 1) (n := ws1.length) (l := u64s ws1) (by simp)).arr) hr1.len fun H8 h8 _ => ?_
        rw [decide_eq_true ⟨rfl, rfl, rfl⟩]
        simp -implicitDefEqProofs -dsimp (disch := omega) only [go_sem, Nat.reduceEqDiff, ↓reduceIte, Nat.reduceAdd, Nat.reduceMul, Nat.reduceSub, Nat.reduceLT, Nat.reduceLeDiff, Int.reduceLT, Int.reduceLE, Int.reduceEq, Int.reduceNeg, Int.reduceAdd, Int.reduceMul, Int.reduceSub, Int.reduceToNat, reduceCtorEq, dec_t, dec_f, w64, cadd1]
        exact nxt H8 h8.tail.tail.tail.tail
    · rw [decide_eq_false hs]
      simp -implicitDefEqProofs -dsimp (disch := omega) only [go_sem, Nat.reduceEqDiff, ↓reduceIte, Nat.reduceAdd, Nat.reduceMul, Nat.reduceSub, Nat.reduceLT, Nat.reduceLeDiff, Int.reduceLT, Int.reduceLE, Int.reduceEq, Int.reduceNeg, Int.reduceAdd, Int.reduceMul, Int.reduceSub, Int.reduceToNat, reduceCtorEq, dec_t, dec_f, Int.toNat_natCast, rb, ra, w64, cadd1]
      rw [← hov]
      have h2 := h1.alloc (l := [.int .i64 0, .int .i64 0, .sl none 0 0 0])
      generalize H1.new _ = H2 at *
      generalize H1.next = b4 at *
      refine runsBackR hp.bm hp.ru h2 (hrr2 (by simp)) ko.w (by omega) (fun q hq => by have := ko.each q hq; omega) fun v1 ws1 bw1 bh1 e1 H3 hr1 h3 => ?_
      have c4 := h3.p1.cel
      refine aft_intro (t := tag _) (by simp [rechecks, recheck, fresh, Fr.get, Fr.put, look, step, opd, c4]) ?_
      obtain ⟨v1a, v1c, v1e, hv1⟩ := h3.own.arr.shape
      obtain ⟨H4, w4, h4⟩ := h3.sto 1 (o := 0) (vs := [.int .i64 bw1, .int .i64 bh1, v1]) rfl (by simp) (by rw [hv1]; simp [one])
      have h5 := h4.alloc (l := [.int .i64 0, .int .i64 0, .sl none 0 0 0])
      obtain ⟨ra, rb⟩ := rdo h4 (by simp)
      rw [hov] at ra
      rw [hv1] at w4 ⊢
      simp -implicitDefEqProofs -dsimp (disch := omega) only [go_sem, Nat.reduceEqDiff, ↓reduceIte, Nat.reduceAdd, Nat.reduceMul, Nat.reduceSub, Nat.reduceLT, Nat.reduceLeDiff, Int.reduceLT, Int.reduceLE, Int.reduceEq, Int.reduceNeg, Int.reduceAdd, Int.reduceMul, Int.reduceSub, Int.reduceToNat, reduceCtorEq, dec_t, dec_f, w4, Int.toNat_natCast, rb, ra]
      try rw [← hv1]
      generalize H4.new _ = H5 at *
      generalize H4.next = b6 at *
      rw [← hov]
      refine refBackR hp.rz hp.rf h5 (hrr2 (by simp)) ko.w (by omega) (fun q hq => by have := ko.each q hq; omega) fun v2 ws2 bw2 bh2 e2 H6 hr2' h6 => ?_
      obtain ⟨rfl, rfl, rfl, rfl⟩ := hr1.det hr2'
      have c6 := h6.p1.cel
      refine aft_intro (t := tag _) (by simp [rechecks, recheck, fresh, Fr.get, Fr.put, look, step, opd, c6]) ?_
      obtain ⟨v2a, v2c, v2e, hv2⟩ := h6.own.arr.shape
      obtain ⟨H7, w7, h7⟩ := h6.sto 1 (o := 0) (vs := [.int .i64 bw1, .int .i64 bh1, v2]) rfl (by simp) (by rw [hv2]; simp [one])
      have r4 := rd_bm h7 (b := b4) (l := [.int .i64 bw1, .int .i64 bh1, v1]) (by simp [over]) 3 rfl
      have r6 := rd_bm h7 (b := b6) (l := [.int .i64 bw1, .int .i64 bh1, v2]) (by simp [over]) 3 rfl
      rw [hv2] at w7 r6 ⊢
      simp -implicitDefEqProofs -dsimp (disch := omega) only [go_sem, Nat.reduceEqDiff, ↓reduceIte, Nat.reduceAdd, Nat.reduceMul, Nat.reduceSub, Nat.reduceLT, Nat.reduceLeDiff, Int.reduceLT, Int.reduceLE, Int.reduceEq, Int.reduceNeg, Int.reduceAdd, Int.reduceMul, Int.reduceSub, Int.reduceToNat, reduceCtorEq, dec_t, dec_f, w7, r4, r6]
      try rw [← hv2]
      refine eqb_ct hp.rz h7 ((h7.ownm (v := v1) (e := 1) (n := ws1.length) (l := u64s ws1) (by simp)).arr) ((h7.ownm (v := v2) (e := 1) (n := ws1.length) (l := u64s ws1) (by simp)).arr) hr1.len fun H8 h8 _ => ?_
      rw [decide_eq_true ⟨rfl, rfl, rfl⟩]
      simp -implicitDefEqProofs -dsimp (disch := omega) only [go_sem, Nat.reduceEqDiff, ↓reduceIte, Nat.reduceAdd, Nat.reduceMul, Nat.reduceSub, Nat.reduceLT, Nat.reduceLeDiff, Int.reduceLT, Int.reduceLE, Int.reduceEq, Int.reduceNeg, Int.reduceAdd, Int.reduceMul, Int.reduceSub, Int.reduceToNat, reduceCtorEq, dec_t, dec_f, w64, cadd1]
      exact nxt H8 h8.tail.tail.tail.tail
  · rw [hvs]
    rcases (show ¬ i < l.length ∨ (i < l.length ∧ ¬ i < 6) by omega) with d | d <;>
    · simp -implicitDefEqProofs -dsimp (disch := omega) only [go_sem, Nat.reduceEqDiff, ↓reduceIte, Nat.reduceAdd, Nat.reduceMul, Nat.reduceSub, Nat.reduceLT, Nat.reduceLeDiff, Int.reduceLT, Int.reduceLE, Int.reduceEq, Int.reduceNeg, Int.reduceAdd, Int.reduceMul, Int.reduceSub, Int.reduceToNat, reduceCtorEq, dec_t, dec_f, burinlaw9_RunsBack_l0]
      rw [hx]
      simp -implicitDefEqProofs -dsimp (disch := omega) only [go_sem, Nat.reduceEqDiff, ↓reduceIte, Nat.reduceAdd, Nat.reduceMul, Nat.reduceSub, Nat.reduceLT, Nat.reduceLeDiff, Int.reduceLT, Int.reduceLE, Int.reduceEq, Int.reduceNeg, Int.reduceAdd, Int.reduceMul, Int.reduceSub, Int.reduceToNat, reduceCtorEq, dec_t, dec_f, ]
      refine wakes9_ct hp.bm hp.rz hp.ru hp.rf h1 fun H4 _ => ?_
      simp -implicitDefEqProofs -dsimp (disch := omega) only [go_sem, Nat.reduceEqDiff, ↓reduceIte, Nat.reduceAdd, Nat.reduceMul, Nat.reduceSub, Nat.reduceLT, Nat.reduceLeDiff, Int.reduceLT, Int.reduceLE, Int.reduceEq, Int.reduceNeg, Int.reduceAdd, Int.reduceMul, Int.reduceSub, Int.reduceToNat, reduceCtorEq, dec_t, dec_f, ]
theorem law_RunsBack {P : Prog} (hp : HasL9 P) (hg : P 124 = some burinlaw9_RunsBack) (H : Heap) (cs : List V) (x : TD.Ty (.sl 32 rwTD)) (h : Is H (.sl 32 rwTD) cs x) : Call P 124 [argV (.sl 32 rwTD) cs] H fun o _ => o = .ret (.bool true) := by
  obtain ⟨v, L, rfl, h2, h3, h4⟩ := h
  obtain ⟨l, h5, h6, h7⟩ := split_rw h3
  exact runsBackL hp hg (by rw [h6, ← h5]; exact h2) h7 (by omega)
end Go.Ab
