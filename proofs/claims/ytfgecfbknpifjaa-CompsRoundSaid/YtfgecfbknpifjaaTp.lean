/- Pieces of one's own, read; wakes. Conditions: none. -/
import Derived.Test.YtfgecfbknpifjaaTm
import Derived.Test.YtfgecfbknpifjaaPL10w
set_option linter.all false
namespace Go.Ab
theorem arr_cel0 {H : Heap} {R : List As} {b : Nat} {l : List V} {ws : List Nat} (hs : Hs H R) (hm : Cel b l ∈ R) (e : l = u64s ws) : Arr H (.sl (some (b, 0)) ws.length ws.length 1) 1 ws.length (u64s ws) := by
  have h1 := hs.ofmem hm
  subst e
  exact .inr ⟨b, 0, ws.length, u64s ws, true, rfl, h1.cel, by simp [u64s], by rw [List.drop_zero, List.take_of_length_le (by simp [u64s])], Nat.le_refl _, h1.celt⟩
def PcP.key (p : PcP) : Int × Int × Int × Int × List Nat := (p.x, p.y, (p.w : Nat), (p.h : Nat), Wds p.w p.h p.p)
def PcR.toO (r : PcR) : PcO := ⟨r.p.x, r.p.y, (r.p.w : Nat), (r.p.h : Nat), r.v, Wds r.p.w r.p.h r.p.p⟩
theorem toO_key (r : PcR) : r.toO.key = r.p.key := rfl
theorem toO_cells (PR : List PcR) : pcCells PR = poCells (PR.map PcR.toO) := by
  induction PR with
  | nil => rfl
  | cons r PR ih => rw [pcCells, List.flatMap_cons, show PR.flatMap PcR.cs = pcCells PR from rfl, ih]; rfl
theorem toO_keys {PR : List PcR} {L : List PcP} (h : PR.map PcR.p = L) : (PR.map PcR.toO).map PcO.key = L.map PcP.key := by
  subst h; rw [List.map_map, List.map_map]; rfl
def keyR (k : Int × Int × Int × Int × List Nat) : Prop := i64r k.1 ∧ i64r k.2.1 ∧ i64r k.2.2.1 ∧ i64r k.2.2.2.1
instance (n : Int) : Decidable (i64r n) := by unfold i64r; infer_instance
instance (k : Int × Int × Int × Int × List Nat) : Decidable (keyR k) := by unfold keyR; infer_instance
theorem stP_rd {ov : V} {PR : List PcR} {T : List As} (hr : ∀ k ∈ PR.map fun r => r.p.key, keyR k) : PcsRd (StP ov PR T) ov (PR.map PcR.toO) := by
  refine ⟨fun H h => ?_, fun o ho H h => ?_, fun o ho n hn => ?_, fun o ho => ?_⟩
  · have := (h.own).arr
    rw [toO_cells] at this
    rw [List.length_map]; exact this
  · obtain ⟨r, hr, rfl⟩ := List.mem_map.1 ho
    refine Hs.bmarr (R := StP ov PR T) h ?_
    exact List.mem_cons_of_mem _ (List.mem_append_left _ (List.mem_map.2 ⟨r, hr, rfl⟩))
  · obtain ⟨r, hr, rfl⟩ := List.mem_map.1 ho
    exact Wds_lt _ _ _ n hn
  · obtain ⟨r, hm, rfl⟩ := List.mem_map.1 ho
    exact hr _ (List.mem_map.2 ⟨r, hm, rfl⟩)
theorem bkPx_key : ∀ {L L' : List PcO}, L.map PcO.key = L'.map PcO.key → bkPx L = bkPx L' := by
  have gen : ∀ (L L' : List PcO) (f : Nat → Nat → Bool), L.map PcO.key = L'.map PcO.key → L.foldl (fun p o => blitP p (pixOf o.w.toNat o.ws) o.w.toNat o.h.toNat 0 0 o.w o.h o.x o.y 0) f = L'.foldl (fun p o => blitP p (pixOf o.w.toNat o.ws) o.w.toNat o.h.toNat 0 0 o.w o.h o.x o.y 0) f := by
    intro L
    induction L with
    | nil => intro L' f h; cases L' with
      | nil => rfl
      | cons a b => cases h
    | cons o L ih => intro L' f h; cases L' with
      | nil => cases h
      | cons a b =>
        rw [List.map_cons, List.map_cons] at h
        obtain ⟨h1, h2⟩ := List.cons.inj h
        simp only [PcO.key, Prod.mk.injEq] at h1
        obtain ⟨e1, e2, e3, e4, e5⟩ := h1
        rw [List.foldl_cons, List.foldl_cons, e1, e2, e3, e4, e5]
        exact ih b _ h2
  exact fun {L L'} h => gen L L' _ h
theorem wake_pcs : (pcsOf (pixOf 3 [2305843009213693952, 11529215046068469760]) 3 2).map PcP.key = [(2, 0, 1, 2, [9223372036854775808, 9223372036854775808]), (0, 1, 1, 1, [9223372036854775808])] := by decide +kernel
def wakeL : List PcO := [⟨2, 0, 1, 2, .un, [9223372036854775808, 9223372036854775808]⟩, ⟨0, 1, 1, 1, .un, [9223372036854775808]⟩]
theorem wake_bk : Wds 3 2 (bkPx wakeL) = [2305843009213693952, 11529215046068469760] := by decide +kernel
section
variable {P : Prog} {H : Heap} {R : List As} {Q : Out → Heap → Prop}
set_option maxHeartbeats 1000000 in
theorem wakes10_ct (hb : HasBm P) (hz : HasRz P) (hu : HasRu P) (hp : HasCo P) (hl : HasL10w P) (hs : Hs H R) (hQ : ∀ H', Hs H' R → Q (.ret (.bool true)) H') : Call P 178 [] H Q := by
  refine call_of hl.h_burinlaw10_wakes rfl ?_
  have g1 := (hs.alloc (l := [.int .u64 2305843009213693952, .int .u64 11529215046068469760])).alloc (l := [.int .i64 3, .int .i64 2, .sl (some (H.next, 0)) 2 2 1])
  rw [next_new] at g1
  have r1 := rd_bm g1 (List.mem_cons_self ..) 3 rfl
  simp -implicitDefEqProofs -dsimp (disch := omega) only [go_sem, Nat.reduceEqDiff, ↓reduceIte, Nat.reduceAdd, Nat.reduceMul, Nat.reduceSub, Nat.reduceLT, Nat.reduceLeDiff, Int.reduceLT, Int.reduceLE, Int.reduceEq, Int.reduceNeg, Int.reduceAdd, Int.reduceMul, Int.reduceSub, Int.reduceToNat, reduceCtorEq, dec_t, dec_f, r1]
  generalize (H.new _).new _ = H1 at *
  generalize H.next + 1 = b1 at *
  generalize H.next = b0 at *
  have hvv : ∀ H', Hs H' (Cel b1 [.int .i64 3, .int .i64 2, .sl (some (b0, 0)) 2 2 1] :: Cel b0 [.int .u64 2305843009213693952, .int .u64 11529215046068469760] :: R) → Arr H' (.sl (some (b0, 0)) 2 2 1) 1 2 (u64s [2305843009213693952, 11529215046068469760]) :=
    fun H' h' => arr_cel0 (b := b0) (ws := [2305843009213693952, 11529215046068469760]) (l := [.int .u64 2305843009213693952, .int .u64 11529215046068469760]) h' (by simp) rfl
  have hmay : mayB 3 2 [2305843009213693952, 11529215046068469760] := ⟨by decide, by decide, by unfold padOk; decide⟩
  refine compsOf_ct hb hu hp (ws := [2305843009213693952, 11529215046068469760]) g1 hvv (by decide) (by decide) (by decide) (fun k => absurd hmay k) fun _ ov PR H2 hPR h2 => ?_
  have hky : PR.map (fun r => r.p.key) = [(2, 0, 1, 2, [9223372036854775808, 9223372036854775808]), (0, 1, 1, 1, [9223372036854775808])] := by
    have := congrArg (List.map PcP.key) hPR
    rw [List.map_map] at this
    exact this.trans wake_pcs
  have hlen : PR.length = 2 := by simpa using congrArg List.length hky
  have hrd : PcsRd (StP ov PR (Cel b1 [.int .i64 3, .int .i64 2, .sl (some (b0, 0)) 2 2 1] :: Cel b0 [.int .u64 2305843009213693952, .int .u64 11529215046068469760] :: R)) ov (PR.map PcR.toO) := stP_rd (by rw [hky]; decide)
  have hok : ∀ k ∈ (PR.map PcR.toO).map PcO.key, mayB k.2.2.1 k.2.2.2.1 k.2.2.2.2 := by
    rw [toO_keys rfl, List.map_map, show PR.map (PcP.key ∘ PcR.p) = PR.map (fun r => r.p.key) from rfl, hky]
    intro k hk
    rcases List.mem_cons.1 hk with rfl | hk
    · exact ⟨by decide, by decide, by unfold padOk; decide⟩
    · rcases List.mem_cons.1 hk with rfl | hk
      · exact ⟨by decide, by decide, by unfold padOk; decide⟩
      · cases hk
  have hpo : ∀ o ∈ PR.map PcR.toO, poOk o := fun o ho => hok o.key (List.mem_map_of_mem ho)
  have hbk : bkPx (PR.map PcR.toO) = bkPx wakeL := bkPx_key (by
    rw [toO_keys rfl, List.map_map, show PR.map (PcP.key ∘ PcR.p) = PR.map (fun r => r.p.key) from rfl, hky]; rfl)
  simp -implicitDefEqProofs -dsimp (disch := omega) only [go_sem, Nat.reduceEqDiff, ↓reduceIte, Nat.reduceAdd, Nat.reduceMul, Nat.reduceSub, Nat.reduceLT, Nat.reduceLeDiff, Int.reduceLT, Int.reduceLE, Int.reduceEq, Int.reduceNeg, Int.reduceAdd, Int.reduceMul, Int.reduceSub, Int.reduceToNat, reduceCtorEq, dec_t, dec_f, ]
  refine compsBack_ct hb hp h2 hrd (by decide) (by decide) (by rw [List.length_map, hlen]; decide) (fun k => absurd ⟨⟨by decide, by decide, by decide⟩, hpo⟩ k) fun _ _ v' H3 h3 => ?_
  rw [hbk] at h3
  obtain ⟨va, vn, vc, ve, rfl⟩ : ∃ a n c e, v' = V.sl a n c e := by obtain ⟨vb, kv⟩ := bmV h3; exact ⟨_, _, _, _, kv.val⟩
  have h4 := h3.alloc (l := [.int .i64 3, .int .i64 2, .sl va vn vc ve])
  obtain ⟨r0, r1', rfl⟩ : ∃ r0 r1, PR = [r0, r1] := by
    match PR, hlen with
    | [a, c], _ => exact ⟨a, c, rfl⟩
  simp -implicitDefEqProofs -dsimp (disch := omega) only [go_sem, Nat.reduceEqDiff, ↓reduceIte, Nat.reduceAdd, Nat.reduceMul, Nat.reduceSub, Nat.reduceLT, Nat.reduceLeDiff, Int.reduceLT, Int.reduceLE, Int.reduceEq, Int.reduceNeg, Int.reduceAdd, Int.reduceMul, Int.reduceSub, Int.reduceToNat, reduceCtorEq, dec_t, dec_f, ]
  generalize H3.new _ = H4 at *
  generalize H3.next = b4 at *
  have arr := hrd.arr H4 h4.tail.tail
  simp only [List.map_cons, List.map_nil, List.cons.injEq, and_true] at hky
  obtain ⟨ky0, ky1⟩ := hky
  simp only [PcP.key, Prod.mk.injEq] at ky0 ky1
  obtain ⟨a1, a2, a3, a4, a5⟩ := ky0
  obtain ⟨c1, c2, c3, c4, c5⟩ := ky1
  obtain ⟨xb, xo, xc, rfl, _, q0, _⟩ := po_rd arr (a := 0) (by simp)
  obtain ⟨xb', xo', xc', ev, _, q1, _⟩ := po_rd arr (a := 1) (by simp)
  cases ev
  have p00 := q0 0 (by omega)
  have p01 := q0 1 (by omega)
  have p03 := q0 3 (by omega)
  have p10 := q1 0 (by omega)
  have p11 := q1 1 (by omega)
  simp only [List.map_cons, List.map_nil, List.getElem_cons_zero, List.getElem_cons_succ, PcO.cs, PcR.toO, a1, a2, a4, c1, c2, List.getElem?_cons_zero, List.getElem?_cons_succ, Nat.add_zero, Nat.zero_mul, Nat.one_mul] at p00 p01 p03 p10 p11
  have rb1 := rd_bm h4 (b := b1) (l := [.int .i64 3, .int .i64 2, .sl (some (b0, 0)) 2 2 1]) (by simp [StP]) 3 rfl
  have rb4 := rd_bm h4 (b := b4) (l := [.int .i64 3, .int .i64 2, .sl va vn vc ve]) (by simp) 3 rfl
  rw [show (List.map PcR.toO [r0, r1']).length = 2 from rfl]
  simp -implicitDefEqProofs -dsimp (disch := omega) only [go_sem, Nat.reduceEqDiff, ↓reduceIte, Nat.reduceAdd, Nat.reduceMul, Nat.reduceSub, Nat.reduceLT, Nat.reduceLeDiff, Int.reduceLT, Int.reduceLE, Int.reduceEq, Int.reduceNeg, Int.reduceAdd, Int.reduceMul, Int.reduceSub, Int.reduceToNat, reduceCtorEq, dec_t, dec_f, p00, p01, p03, p10, p11, rb1, rb4, show ((2 : Nat) : Int) = 2 from rfl]
  have hT : ∀ {H'} {X Y : As}, Hs H' (X :: Y :: StP (.sl (some (xb, xo)) 2 xc 5) [r0, r1'] (Cel b1 [.int .i64 3, .int .i64 2, .sl (some (b0, 0)) 2 2 1] :: Cel b0 [.int .u64 2305843009213693952, .int .u64 11529215046068469760] :: R)) → Hs H' (Cel b1 [.int .i64 3, .int .i64 2, .sl (some (b0, 0)) 2 2 1] :: Cel b0 [.int .u64 2305843009213693952, .int .u64 11529215046068469760] :: R) := fun h => (h.tail.tail.tail).drops
  refine eqb_ct hz h4 (bs := [2305843009213693952, 11529215046068469760]) (hvv H4 (hT h4)) ((h4.ofmem (A := BmA (.sl va vn vc ve) 3 2 (bkPx wakeL)) (List.mem_cons_of_mem _ (List.mem_cons_self ..))).bml.own.arr) (by decide) fun H5 h5 _ => ?_
  rw [decide_eq_true (show (3 : Int) = 3 ∧ (2 : Int) = 2 ∧ [2305843009213693952, 11529215046068469760] = Wds 3 2 (bkPx wakeL) from ⟨rfl, rfl, wake_bk.symm⟩)]
  simp -implicitDefEqProofs -dsimp (disch := omega) only [go_sem, Nat.reduceEqDiff, ↓reduceIte, Nat.reduceAdd, Nat.reduceMul, Nat.reduceSub, Nat.reduceLT, Nat.reduceLeDiff, Int.reduceLT, Int.reduceLE, Int.reduceEq, Int.reduceNeg, Int.reduceAdd, Int.reduceMul, Int.reduceSub, Int.reduceToNat, reduceCtorEq, dec_t, dec_f, ]
  exact hQ H5 (hT h5).tail.tail
end
end Go.Ab
