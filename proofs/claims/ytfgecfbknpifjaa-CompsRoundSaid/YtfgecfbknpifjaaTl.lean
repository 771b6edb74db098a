/- comps.Back. Conditions: none. -/
import Derived.Test.YtfgecfbknpifjaaTk
set_option linter.all false
namespace Go.Ab
/-- A piece that can be read. -/
structure PcO where
  x : Int
  y : Int
  w : Int
  h : Int
  v : V
  ws : List Nat
def PcO.cs (o : PcO) : List V := [.int .i64 o.x, .int .i64 o.y, .int .i64 o.w, .int .i64 o.h, o.v]
def poCells (l : List PcO) : List V := l.flatMap PcO.cs
theorem poCells_at : ∀ {l : List PcO} {i : Nat} (hi : i < l.length), ((poCells l).drop (i * 5)).take 5 = l[i].cs
  | o :: l, 0, _ => by simp [poCells, PcO.cs]
  | o :: l, i + 1, hi => by
    have := poCells_at (l := l) (i := i) (by simpa using hi)
    rw [show (i + 1) * 5 = 5 + i * 5 by omega, ← List.drop_drop]
    simpa [poCells, PcO.cs] using this
/-- Pieces that can be read where R holds. -/
structure PcsRd (R : List As) (pv : V) (L : List PcO) : Prop where
  arr : ∀ H, Hs H R → Arr H pv 5 L.length (poCells L)
  bits : ∀ o ∈ L, ∀ H, Hs H R → Arr H o.v 1 o.ws.length (u64s o.ws)
  lt : ∀ o ∈ L, ∀ n ∈ o.ws, n < 18446744073709551616
  r : ∀ o ∈ L, i64r o.x ∧ i64r o.y ∧ i64r o.w ∧ i64r o.h
theorem PcsRd.mono {R R' : List As} {pv : V} {L : List PcO} (s : PcsRd R pv L) (k : ∀ H, Hs H R' → Hs H R) : PcsRd R' pv L := ⟨fun H h => s.arr H (k H h), fun o ho H h => s.bits o ho H (k H h), s.lt, s.r⟩
theorem po_rd {H : Heap} {v : V} {L : List PcO} (h : Arr H v 5 L.length (poCells L)) {a : Nat} (ha : a < L.length) :
    ∃ b o c, v = .sl (some (b, o)) L.length c 5 ∧ rd H (some 5) b (o + a * 5) = some (.agg L[a].cs) ∧ (∀ k, k < 5 → rd H none b (o + a * 5 + k) = L[a].cs[k]?) ∧ rd H (some 3) b (o + a * 5 + 2) = some (.agg [.int .i64 L[a].w, .int .i64 L[a].h, L[a].v]) := by
  obtain ⟨b, o, c, rfl, _, h1, h2⟩ := h.at ha
  have e := poCells_at ha
  refine ⟨b, o, c, rfl, ?_, fun k hk => ?_, ?_⟩
  · have := h2 0 5 (by omega)
    rw [Nat.add_zero, Nat.add_zero, e] at this; exact this
  · rw [h1 k hk, ← e, List.getElem?_take, if_pos hk, List.getElem?_drop]
  · have := h2 2 3 (by omega)
    rw [this]
    have e2 : ((poCells L).drop (a * 5 + 2)).take 3 = (((poCells L).drop (a * 5)).take 5).drop 2 := by rw [List.drop_take, List.drop_drop]
    rw [e2, e]; rfl
def poOk (o : PcO) : Prop := mayB o.w o.h o.ws
/-- Pieces, laid. -/
def bkPx (L : List PcO) : Nat → Nat → Bool := L.foldl (fun p o => blitP p (pixOf o.w.toNat o.ws) o.w.toNat o.h.toNat 0 0 o.w o.h o.x o.y 0) fun _ _ => false
theorem bkPx_snoc (L : List PcO) (o : PcO) : bkPx (L ++ [o]) = blitP (bkPx L) (pixOf o.w.toNat o.ws) o.w.toNat o.h.toNat 0 0 o.w o.h o.x o.y 0 := by simp [bkPx]
section
variable {P : Prog} {H : Heap} {R : List As} {Q : Out → Heap → Prop}
set_option maxHeartbeats 1000000 in
theorem compsBack_ct (hb : HasBm P) (hp : HasCo P) {w h : Int} {pv : V} {L : List PcO} (hs : Hs H R) (hr : PcsRd R pv L) (hw : i64r w) (hh : i64r h) (hL : L.length ≤ 281474976710656)
    (hQ1 : ¬ (sizeOk w h ∧ ∀ o ∈ L, poOk o) → ∀ H', Hs H' R → Q (.ret (.tup [.agg [.int .i64 0, .int .i64 0, .sl none 0 0 0], .int .i64 90])) H')
    (hQ2 : sizeOk w h → (∀ o ∈ L, poOk o) → ∀ v' H', Hs H' (BmA v' w.toNat h.toNat (bkPx L) :: R) → Q (.ret (.tup [.agg [.int .i64 w, .int .i64 h, v'], .int .i64 0])) H') : Call P 184 [pv, .int .i64 w, .int .i64 h] H Q := by
  obtain ⟨pa, pc, pe, rfl⟩ := (hr.arr H hs).shape
  refine call_of hp.h_comps_Back rfl ?_
  have h1 := hs.alloc (l := [.int .i64 0, .int .i64 0, .sl none 0 0 0])
  simp -implicitDefEqProofs -dsimp (disch := omega) only [go_sem, Nat.reduceEqDiff, ↓reduceIte, Nat.reduceAdd, Nat.reduceMul, Nat.reduceSub, Nat.reduceLT, Nat.reduceLeDiff, Int.reduceLT, Int.reduceLE, Int.reduceEq, Int.reduceNeg, Int.reduceAdd, Int.reduceMul, Int.reduceSub, Int.reduceToNat, reduceCtorEq, dec_t, dec_f, ]
  generalize H.new _ = H1 at *
  generalize H.next = b at *
  have bad : ∀ {H' : Heap} {T : List As}, Hs H' (Cel b [.int .i64 0, .int .i64 0, .sl none 0 0 0] :: T) → ∃ H'', wr H' b 0 [.int .i64 0, .int .i64 0, .sl none 0 0 0] = some H'' ∧ Hs H'' (Cel b [.int .i64 0, .int .i64 0, .sl none 0 0 0] :: T) := fun {H' T} h => Hs.sto 0 h rfl (o := 0) (vs := [.int .i64 0, .int .i64 0, .sl none 0 0 0]) (by simp) rfl
  refine new_ct hb h1 hw hh (fun k => ?_) fun k m H2 h2 _ => ?_
  · obtain ⟨H3, e3, h3⟩ := bad h1
    have r3 := rd_bm h3 (List.mem_cons_self ..) 3 rfl
    simp -implicitDefEqProofs -dsimp (disch := omega) only [go_sem, Nat.reduceEqDiff, ↓reduceIte, Nat.reduceAdd, Nat.reduceMul, Nat.reduceSub, Nat.reduceLT, Nat.reduceLeDiff, Int.reduceLT, Int.reduceLE, Int.reduceEq, Int.reduceNeg, Int.reduceAdd, Int.reduceMul, Int.reduceSub, Int.reduceToNat, reduceCtorEq, dec_t, dec_f, e3, r3]
    exact hQ1 (fun q => k q.1) H3 h3.tail
  have hle := sizeOk_le k
  have hkk := k
  obtain ⟨k1, k2, k3⟩ := k
  obtain ⟨wn, rfl⟩ : ∃ n : Nat, w = n := ⟨w.toNat, by omega⟩
  obtain ⟨hn', rfl⟩ : ∃ n : Nat, h = n := ⟨h.toNat, by omega⟩
  simp only [Int.toNat_natCast] at h2 hQ2
  simp -implicitDefEqProofs -dsimp (disch := omega) only [go_sem, Nat.reduceEqDiff, ↓reduceIte, Nat.reduceAdd, Nat.reduceMul, Nat.reduceSub, Nat.reduceLT, Nat.reduceLeDiff, Int.reduceLT, Int.reduceLE, Int.reduceEq, Int.reduceNeg, Int.reduceAdd, Int.reduceMul, Int.reduceSub, Int.reduceToNat, reduceCtorEq, dec_t, dec_f, ]
  refine loop_cnt L.length (fun i => ⟨[(6, .ptr (some (b, 0))), (8, .ptr (some (m, 0))), (23, .sl pa L.length pc pe), (24, .int .i64 (L.length : Nat)), (25, .int .i64 (i : Nat))], []⟩)
    (fun i H => (∀ o ∈ L.take i, poOk o) ∧ Hs H (MapA m wn hn' (bkPx (L.take i)) :: Cel b [.int .i64 0, .int .i64 0, .sl none 0 0 0] :: R)) (fun i H3 K hi ⟨hok, h3⟩ hn hx hrr => ?_) 0 H2 (Nat.zero_le _) ⟨by simp, h2⟩
  by_cases hlt : i < L.length
  · obtain ⟨xb, xo, xc, ev, r1, r2, r3⟩ := po_rd (hr.arr H3 h3.tail.tail) hlt
    cases ev
    have hmem := List.getElem_mem hlt
    have etk : L.take (i + 1) = L.take i ++ [L[i]] := (List.take_append_getElem hlt).symm
    generalize L[i] = o at r1 r2 r3 hmem etk
    obtain ⟨i1, i2, i3, i4⟩ := hr.r o hmem
    have hbt := hr.bits o hmem
    have hblt := hr.lt o hmem
    obtain ⟨va, vc, ve, hov⟩ := (hbt H3 h3.tail.tail).shape
    obtain ⟨ox, oy, ow, oh, ov, ows⟩ := o
    dsimp only at hov i1 i2 i3 i4 hbt hblt
    subst hov
    unfold PcO.cs at r1
    dsimp only at r1
    have h4 := h3.alloc (l := [.int .i64 ox, .int .i64 oy, .int .i64 ow, .int .i64 oh, .sl va ows.length vc ve])
    have c3 := rd_m h4.cel 3 2
    rw [show (piece [V.int .i64 ox, .int .i64 oy, .int .i64 ow, .int .i64 oh, .sl va ows.length vc ve] 2 3).map V.agg = some (.agg [.int .i64 ow, .int .i64 oh, .sl va ows.length vc ve]) from rfl] at c3
    simp -implicitDefEqProofs -dsimp (disch := omega) only [go_sem, Nat.reduceEqDiff, ↓reduceIte, Nat.reduceAdd, Nat.reduceMul, Nat.reduceSub, Nat.reduceLT, Nat.reduceLeDiff, Int.reduceLT, Int.reduceLE, Int.reduceEq, Int.reduceNeg, Int.reduceAdd, Int.reduceMul, Int.reduceSub, Int.reduceToNat, reduceCtorEq, dec_t, dec_f, comps_Back_l0, Int.toNat_natCast, r1, c3]
    refine from_ct hb h4 (fun s => hbt _ (h4.keep s).tail.tail.tail) hblt i3 i4 (fun nk H5 h5 _ => ?_) fun nk mb H5 h5 _ => ?_
    · obtain ⟨H6, e6, h6⟩ := bad (h5.p2)
      have r6 := rd_bm h6 (List.mem_cons_self ..) 3 rfl
      simp -implicitDefEqProofs -dsimp (disch := omega) only [go_sem, Nat.reduceEqDiff, ↓reduceIte, Nat.reduceAdd, Nat.reduceMul, Nat.reduceSub, Nat.reduceLT, Nat.reduceLeDiff, Int.reduceLT, Int.reduceLE, Int.reduceEq, Int.reduceNeg, Int.reduceAdd, Int.reduceMul, Int.reduceSub, Int.reduceToNat, reduceCtorEq, dec_t, dec_f, e6]
      rw [hrr]
      simp -implicitDefEqProofs -dsimp (disch := omega) only [go_sem, Nat.reduceEqDiff, ↓reduceIte, Nat.reduceAdd, Nat.reduceMul, Nat.reduceSub, Nat.reduceLT, Nat.reduceLeDiff, Int.reduceLT, Int.reduceLE, Int.reduceEq, Int.reduceNeg, Int.reduceAdd, Int.reduceMul, Int.reduceSub, Int.reduceToNat, reduceCtorEq, dec_t, dec_f, r6]
      refine hQ1 (fun q => nk (q.2 _ hmem)) H6 ?_
      exact h6.tail.tail.tail
    · have c5 := rd_s h5.p1.cel
      simp -implicitDefEqProofs -dsimp (disch := omega) only [go_sem, Nat.reduceEqDiff, ↓reduceIte, Nat.reduceAdd, Nat.reduceMul, Nat.reduceSub, Nat.reduceLT, Nat.reduceLeDiff, Int.reduceLT, Int.reduceLE, Int.reduceEq, Int.reduceNeg, Int.reduceAdd, Int.reduceMul, Int.reduceSub, Int.reduceToNat, reduceCtorEq, dec_t, dec_f, c5]
      refine blit_ct hb (h5.p2) (by unfold i64r; omega) (by unfold i64r; omega) i3 i4 i1 i2 (by unfold i64r; omega) fun H6 h6 => ?_
      simp -implicitDefEqProofs -dsimp (disch := omega) only [go_sem, Nat.reduceEqDiff, ↓reduceIte, Nat.reduceAdd, Nat.reduceMul, Nat.reduceSub, Nat.reduceLT, Nat.reduceLeDiff, Int.reduceLT, Int.reduceLE, Int.reduceEq, Int.reduceNeg, Int.reduceAdd, Int.reduceMul, Int.reduceSub, Int.reduceToNat, reduceCtorEq, dec_t, dec_f, w64, cadd1]
      obtain ⟨⟨z1, z2, z3⟩, z4, z5⟩ := nk
      have ebr : blitR ow oh 0 = 0 := by unfold blitR; rw [if_neg (by omega), if_neg (by omega)]
      rw [ebr, if_pos rfl] at h6
      refine hn hlt H6 ⟨fun o ho => ?_, ?_⟩
      · rw [etk] at ho
        rcases List.mem_append.1 ho with ho | ho
        · exact hok o ho
        · simp at ho; subst ho; exact ⟨⟨z1, z2, z3⟩, z4, z5⟩
      · rw [etk, bkPx_snoc]
        exact (h6.p1.tail).p1.tail
  · obtain rfl : i = L.length := by omega
    rw [List.take_length] at h3 hok
    simp -implicitDefEqProofs -dsimp (disch := omega) only [go_sem, Nat.reduceEqDiff, ↓reduceIte, Nat.reduceAdd, Nat.reduceMul, Nat.reduceSub, Nat.reduceLT, Nat.reduceLeDiff, Int.reduceLT, Int.reduceLE, Int.reduceEq, Int.reduceNeg, Int.reduceAdd, Int.reduceMul, Int.reduceSub, Int.reduceToNat, reduceCtorEq, dec_t, dec_f, comps_Back_l0]
    rw [hx]
    simp -implicitDefEqProofs -dsimp (disch := omega) only [go_sem, Nat.reduceEqDiff, ↓reduceIte, Nat.reduceAdd, Nat.reduceMul, Nat.reduceSub, Nat.reduceLT, Nat.reduceLeDiff, Int.reduceLT, Int.reduceLE, Int.reduceEq, Int.reduceNeg, Int.reduceAdd, Int.reduceMul, Int.reduceSub, Int.reduceToNat, reduceCtorEq, dec_t, dec_f, ]
    refine plain_ct hb h3 fun v' H4 h4 _ => ?_
    obtain ⟨va, vc, ve, rfl⟩ := h4.own.arr.shape
    obtain ⟨H5, e5, h5⟩ := Hs.sto 2 (bmA_of h4 (mapSz0 h3)) rfl (o := 0) (vs := [.int .i64 (wn : Nat), .int .i64 (hn' : Nat), .sl va (Wds wn hn' (bkPx L)).length vc ve]) (by simp) rfl
    have r5 := rd_bm h5 (b := b) (l := [.int .i64 (wn : Nat), .int .i64 (hn' : Nat), .sl va (Wds wn hn' (bkPx L)).length vc ve]) (by simp [over]) 3 rfl
    simp -implicitDefEqProofs -dsimp (disch := omega) only [go_sem, Nat.reduceEqDiff, ↓reduceIte, Nat.reduceAdd, Nat.reduceMul, Nat.reduceSub, Nat.reduceLT, Nat.reduceLeDiff, Int.reduceLT, Int.reduceLE, Int.reduceEq, Int.reduceNeg, Int.reduceAdd, Int.reduceMul, Int.reduceSub, Int.reduceToNat, reduceCtorEq, dec_t, dec_f, e5, r5]
    exact hQ2 hkk hok _ H5 h5.tail2.tail2
end
end Go.Ab
