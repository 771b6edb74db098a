/- The law CompsBack. Conditions: none. -/
import Derived.Test.YtfgecfbknpifjaaTp
import Derived.Test.YtfgecfbknpifjaaPL10Back
import Derived.Test.YtfgecfbknpifjaaC4
set_option linter.all false
namespace Go.Ab
abbrev pieceTD : TD := .agg [.int .i64, .int .i64, bmTD]
abbrev laidTD : TD := .agg [.sl 56 pieceTD, .int .i64, .int .i64]
structure PcOk (H : Heap) (o : PcO) : Prop where
  x : i64r o.x
  y : i64r o.y
  b : BmOk H ⟨o.w, o.h, o.v, o.ws⟩
theorem split_pcs {H : Heap} : ∀ {xs : List (TD.Ty pieceTD)} {L : List V}, Split (Is H pieceTD) L xs → ∃ l : List PcO, L = poCells l ∧ l.length = List.length xs ∧ ∀ o ∈ l, PcOk H o
  | [], _, h => ⟨[], h, rfl, fun _ h => by cases h⟩
  | x :: xs, L, ⟨a, b, e, h1, h2⟩ => by
    obtain ⟨l, h3, h4, h5⟩ := split_pcs h2
    obtain ⟨a1, r1, e1, ⟨g1, g1'⟩, a2, r2, e2, ⟨g2, g2'⟩, a3, r3, e3, g3, g4⟩ := h1
    obtain ⟨o, k1, k2⟩ := is_bm g3
    refine ⟨⟨x.1, x.2.1, o.w, o.h, o.v, o.ws⟩ :: l, by rw [e, h3, e1, g1, e2, g2, e3, k1, show r3 = [] from g4]; rfl, by simp [h4], fun q hq => ?_⟩
    rcases List.mem_cons.1 hq with rfl | hq
    · exact ⟨g1', g2', k2⟩
    · exact h5 q hq
def cbFin : Cd := (.seq (.reg false [2] [⟨some 68, .mv (.t 7), none, 0, []⟩,
    ⟨some 69, .mv (.t 9), none, 0, []⟩,
    ⟨some 70, .bin .eql .num (.t 68) (.t 69), none, 0, []⟩,
    ⟨some 71, .mv (.t 70), none, 0, []⟩,
    ⟨some 72, .load (some 3) (.t 6), some (71, true), 0, []⟩,
    ⟨some 73, .load (some 3) (.t 8), some (71, true), 0, []⟩,
    ⟨some 74, .call (.f 84) [(.t 72), (.t 73)], some (71, true), 0, []⟩,
    ⟨some 75, .pick (.t 71) (.t 74) (.c (.bool false)), none, 0, []⟩,
    ⟨some 76, .mv (.t 75), none, 0, []⟩,
    ⟨some 77, .mv (.t 5), some (76, true), 0, []⟩,
    ⟨some 78, .fad 0 (.t 1), some (76, true), 0, []⟩,
    ⟨some 79, .load none (.t 78), some (76, true), 0, []⟩,
    ⟨some 80, .call (.f 180) [(.t 77), (.t 79)], some (76, true), 0, []⟩,
    ⟨some 81, .pick (.t 76) (.t 80) (.c (.bool false)), none, 0, []⟩,
    ⟨some 82, .mv (.t 81), none, 0, []⟩,
    ⟨some 83, .call (.f 178) [], some (82, true), 0, []⟩,
    ⟨some 84, .pick (.t 82) (.t 83) (.c (.bool false)), none, 0, []⟩,
    ⟨some 2, .mv (.t 84), none, 0, []⟩])
  (.ret))
def cbRest : Cd := (.seq (.reg false [1, 3] [⟨some 3, .mv (.c (.int .i64 0)), none, 0, []⟩])
  (.seq (.seq (.reg false [1, 3, 4] [⟨some 4, .mv (.c (.int .i64 0)), none, 0, []⟩])
  (.block 0 (.loop [1, 3, 4] burinlaw10_CompsBack_l0)))
  (.seq (.reg false [1, 5] [⟨some 46, .fad 0 (.t 1), none, 0, []⟩,
    ⟨some 47, .load none (.t 46), none, 0, []⟩,
    ⟨some 48, .call (.f 191) [(.t 47)], none, 0, []⟩,
    ⟨some 5, .mv (.t 48), none, 0, []⟩])
  (.seq (.reg false [1, 5, 6, 7] [⟨some 50, .mv (.t 5), none, 0, []⟩,
    ⟨some 51, .fad 1 (.t 1), none, 0, []⟩,
    ⟨some 52, .load none (.t 51), none, 0, []⟩,
    ⟨some 53, .fad 2 (.t 1), none, 0, []⟩,
    ⟨some 54, .load none (.t 53), none, 0, []⟩,
    ⟨some 55, .call (.f 184) [(.t 50), (.t 52), (.t 54)], none, 0, []⟩,
    ⟨some 49, .mv (.t 55), none, 0, []⟩,
    ⟨some 56, .ext 0 (.t 49), none, 0, []⟩,
    ⟨some 57, .ext 1 (.t 49), none, 0, []⟩,
    ⟨some 6, .alloc [.int .i64 0, .int .i64 0, .sl none 0 0 0], none, 0, []⟩,
    ⟨none, .store 3 (.t 6) (.t 56), none, 0, []⟩,
    ⟨some 7, .mv (.t 57), none, 0, []⟩])
  (.seq (.reg false [1, 5, 6, 7, 8, 9] [⟨some 59, .fad 0 (.t 1), none, 0, []⟩,
    ⟨some 60, .load none (.t 59), none, 0, []⟩,
    ⟨some 61, .fad 1 (.t 1), none, 0, []⟩,
    ⟨some 62, .load none (.t 61), none, 0, []⟩,
    ⟨some 63, .fad 2 (.t 1), none, 0, []⟩,
    ⟨some 64, .load none (.t 63), none, 0, []⟩,
    ⟨some 65, .call (.f 190) [(.t 60), (.t 62), (.t 64)], none, 0, []⟩,
    ⟨some 58, .mv (.t 65), none, 0, []⟩,
    ⟨some 66, .ext 0 (.t 58), none, 0, []⟩,
    ⟨some 67, .ext 1 (.t 58), none, 0, []⟩,
    ⟨some 8, .alloc [.int .i64 0, .int .i64 0, .sl none 0 0 0], none, 0, []⟩,
    ⟨none, .store 3 (.t 8) (.t 66), none, 0, []⟩,
    ⟨some 9, .mv (.t 67), none, 0, []⟩])
  cbFin)))))
def sumW (L : List PcO) : Nat := (L.map fun o => 64 * o.ws.length).sum
theorem sumW_mem : ∀ {L : List PcO} {o : PcO} (_ : o ∈ L), 64 * o.ws.length ≤ sumW L
  | a :: L, o, h => by
    have e : sumW (a :: L) = 64 * a.ws.length + sumW L := by simp [sumW]
    rcases List.mem_cons.1 h with rfl | h
    · omega
    · have := sumW_mem h; omega
theorem sumW_snoc (L : List PcO) (o : PcO) : sumW (L ++ [o]) = sumW L + 64 * o.ws.length := by simp [sumW]
structure HasL10 (P : Prog) : Prop where
  bm : HasBm P
  rz : HasRz P
  ru : HasRu P
  co : HasCo P
  w : HasL10w P
section
variable {P : Prog} {H : Heap} {R : List As}
set_option maxHeartbeats 1000000 in
theorem cb_loop (hp : HasL10 P) {Q : Post} {t : Tag Q} {s : Tag burinlaw10_CompsBack_l0} {b : Nat} {pv : V} {w h : Int} {L : List PcO} (hs : Hs H (Cel b [pv, .int .i64 w, .int .i64 h] :: R)) (hr : PcsRd R pv L) (hL : L.length ≤ 281474976710656) (hws : ∀ o ∈ L, o.ws.length ≤ 17592186044415)
    (hK : ∀ H' ex, sumW L ≤ 20000 → Hs H' (Cel b [pv, .int .i64 w, .int .i64 h] :: R) → Q (.exit 0) ⟨(1, .ptr (some (b, 0))) :: ex, []⟩ H')
    (hK2 : ∀ H' ex, Q .ret ⟨(2, .bool true) :: ex, []⟩ H') :
    loopL (Call P) [1, 3, 4] burinlaw10_CompsBack_l0 Q t s ⟨[(1, .ptr (some (b, 0))), (3, .int .i64 ((0 : Nat) : Int)), (4, .int .i64 ((0 : Nat) : Int))], []⟩ H := by
  obtain ⟨pa, pc, pe, rfl⟩ := (hr.arr H hs.tail).shape
  refine loop_cnt L.length (fun i => ⟨[(1, .ptr (some (b, 0))), (3, .int .i64 (sumW (L.take i) : Nat)), (4, .int .i64 (i : Nat))], []⟩)
    (fun i H => sumW (L.take i) ≤ 20000 ∧ Hs H (Cel b [.sl pa L.length pc pe, .int .i64 w, .int .i64 h] :: R)) (fun i H1 K hi ⟨hn1, h1⟩ hn hx hrr => ?_) 0 H (Nat.zero_le _) ⟨by simp [sumW], hs⟩
  have c1 := rd_s h1.cel
  by_cases hlt : i < L.length
  · obtain ⟨xb, xo, xc, ev, r1, r2, r3⟩ := po_rd (hr.arr H1 h1.tail) hlt
    cases ev
    have hmem := List.getElem_mem hlt
    have etk : L.take (i + 1) = L.take i ++ [L[i]] := (List.take_append_getElem hlt).symm
    generalize L[i] = o at r1 r2 r3 hmem etk
    have hbt := hr.bits o hmem
    have hwl := hws o hmem
    obtain ⟨va, vc, ve, hov⟩ := (hbt H1 h1.tail).shape
    obtain ⟨ox, oy, ow, oh, ov, ows⟩ := o
    dsimp only at hov hwl
    subst hov
    have q4 := r2 4 (by omega)
    have esn := sumW_snoc (L.take i) ⟨ox, oy, ow, oh, .sl va ows.length vc ve, ows⟩
    dsimp only at esn
    rw [← etk] at esn
    have e1 : ((sumW (L.take i) : Nat) : Int) + 64 * (ows.length : Nat) = ((sumW (L.take (i + 1)) : Nat) : Int) := by omega
    by_cases big : sumW (L.take (i + 1)) > 20000
    · simp -implicitDefEqProofs -dsimp (disch := omega) only [go_sem, Nat.reduceEqDiff, ↓reduceIte, Nat.reduceAdd, Nat.reduceMul, Nat.reduceSub, Nat.reduceLT, Nat.reduceLeDiff, Int.reduceLT, Int.reduceLE, Int.reduceEq, Int.reduceNeg, Int.reduceAdd, Int.reduceMul, Int.reduceSub, Int.reduceToNat, reduceCtorEq, dec_t, dec_f, burinlaw10_CompsBack_l0, Int.toNat_natCast, c1, q4, w64, PcO.cs, e1]
      refine wakes10_ct hp.bm hp.rz hp.ru hp.co hp.w h1 fun H2 h2 => ?_
      simp -implicitDefEqProofs -dsimp (disch := omega) only [go_sem, Nat.reduceEqDiff, ↓reduceIte, Nat.reduceAdd, Nat.reduceMul, Nat.reduceSub, Nat.reduceLT, Nat.reduceLeDiff, Int.reduceLT, Int.reduceLE, Int.reduceEq, Int.reduceNeg, Int.reduceAdd, Int.reduceMul, Int.reduceSub, Int.reduceToNat, reduceCtorEq, dec_t, dec_f, ]
      rw [hrr]
      exact hK2 _ _
    · simp -implicitDefEqProofs -dsimp (disch := omega) only [go_sem, Nat.reduceEqDiff, ↓reduceIte, Nat.reduceAdd, Nat.reduceMul, Nat.reduceSub, Nat.reduceLT, Nat.reduceLeDiff, Int.reduceLT, Int.reduceLE, Int.reduceEq, Int.reduceNeg, Int.reduceAdd, Int.reduceMul, Int.reduceSub, Int.reduceToNat, reduceCtorEq, dec_t, dec_f, burinlaw10_CompsBack_l0, Int.toNat_natCast, c1, q4, w64, PcO.cs, e1, cadd1]
      exact hn hlt H1 ⟨by omega, h1⟩
  · obtain rfl : i = L.length := by omega
    rw [List.take_length] at hn1
    simp -implicitDefEqProofs -dsimp (disch := omega) only [go_sem, Nat.reduceEqDiff, ↓reduceIte, Nat.reduceAdd, Nat.reduceMul, Nat.reduceSub, Nat.reduceLT, Nat.reduceLeDiff, Int.reduceLT, Int.reduceLE, Int.reduceEq, Int.reduceNeg, Int.reduceAdd, Int.reduceMul, Int.reduceSub, Int.reduceToNat, reduceCtorEq, dec_t, dec_f, burinlaw10_CompsBack_l0, c1]
    rw [hx]
    exact hK H1 _ hn1 h1
theorem stO_rd {ov : V} {L L' : List PcO} {T : List As} (hk : L'.map PcO.key = L.map PcO.key) (hlt : ∀ o ∈ L, ∀ n ∈ o.ws, n < 18446744073709551616) (hr : ∀ o ∈ L, i64r o.x ∧ i64r o.y ∧ i64r o.w ∧ i64r o.h) : PcsRd (StO ov L' T) ov L' := by
  have back : ∀ o ∈ L', ∃ q ∈ L, q.key = o.key := fun o ho => by
    have : o.key ∈ L.map PcO.key := by rw [← hk]; exact List.mem_map_of_mem ho
    obtain ⟨q, h1, h2⟩ := List.mem_map.1 this
    exact ⟨q, h1, h2⟩
  refine ⟨fun H h => (h.own).arr, fun o ho H h => ?_, fun o ho n hn => ?_, fun o ho => ?_⟩
  · exact (h.ownm (List.mem_cons_of_mem _ (List.mem_append_left _ (List.mem_map.2 ⟨o, ho, rfl⟩)))).arr
  · obtain ⟨q, h1, h2⟩ := back o ho
    simp only [PcO.key, Prod.mk.injEq] at h2
    refine hlt q h1 n ?_
    rw [h2.2.2.2.2]; exact hn
  · obtain ⟨q, h1, h2⟩ := back o ho
    simp only [PcO.key, Prod.mk.injEq] at h2
    have := hr q h1
    rw [h2.1, h2.2.1, h2.2.2.1, h2.2.2.2.1] at this; exact this
theorem poOk_key {L L' : List PcO} (hk : L'.map PcO.key = L.map PcO.key) (h : ∀ o ∈ L, poOk o) : ∀ o ∈ L', poOk o := fun o ho => by
  have : o.key ∈ L.map PcO.key := by rw [← hk]; exact List.mem_map_of_mem ho
  obtain ⟨q, h1, h2⟩ := List.mem_map.1 this
  have := h q h1
  simp only [PcO.key, Prod.mk.injEq] at h2
  unfold poOk at this ⊢
  rw [h2.2.2.1, h2.2.2.2.1, h2.2.2.2.2] at this; exact this
theorem cb_fin (hp : HasL10 P) (hf : HasRfc P) {S : List As} {b b6 b8 : Nat} {pv ov v1 v2 : V} {w h bw bh e : Int} {ws : List Nat} {L L' : List PcO} {ex : List (Nat × V)} (hs : Hs H S)
    (m6 : Cel b6 [.int .i64 bw, .int .i64 bh, v1] ∈ S) (m8 : Cel b8 [.int .i64 bw, .int .i64 bh, v2] ∈ S) (mb : Cel b [pv, .int .i64 w, .int .i64 h] ∈ S) (a1 : ∀ H', Hs H' S → Arr H' v1 1 ws.length (u64s ws)) (a2 : ∀ H', Hs H' S → Arr H' v2 1 ws.length (u64s ws))
    (r1 : PcsRd S ov L') (r2 : PcsRd S pv L) (hk : L'.map PcO.key = L.map PcO.key) (hL : L'.length ≤ 281474976710656) (hws : ∀ o ∈ L', o.ws.length ≤ 281474976710656) (hwl : ws.length ≤ 281474976710656) :
    wpC (Call P) cbFin (fin P true [.t 2] fun o _ => o = .ret (.bool true)) ⟨[(1, .ptr (some (b, 0))), (5, ov), (6, .ptr (some (b6, 0))), (7, .int .i64 e), (8, .ptr (some (b8, 0))), (9, .int .i64 e)], []⟩ H := by
  have q6 := rd_bm hs m6 3 rfl
  have q8 := rd_bm hs m8 3 rfl
  simp -implicitDefEqProofs -dsimp (disch := omega) only [go_sem, Nat.reduceEqDiff, ↓reduceIte, Nat.reduceAdd, Nat.reduceMul, Nat.reduceSub, Nat.reduceLT, Nat.reduceLeDiff, Int.reduceLT, Int.reduceLE, Int.reduceEq, Int.reduceNeg, Int.reduceAdd, Int.reduceMul, Int.reduceSub, Int.reduceToNat, reduceCtorEq, dec_t, dec_f, cbFin, q6, q8]
  refine eqb_ct hp.rz hs (a1 H hs) (a2 H hs) hwl fun H1 h1 _ => ?_
  rw [decide_eq_true ⟨rfl, rfl, rfl⟩]
  have cb := rd_s (h1.celm mb)
  obtain ⟨pa, pc, pe, rfl⟩ := (r2.arr H1 h1).shape
  simp -implicitDefEqProofs -dsimp (disch := omega) only [go_sem, Nat.reduceEqDiff, ↓reduceIte, Nat.reduceAdd, Nat.reduceMul, Nat.reduceSub, Nat.reduceLT, Nat.reduceLeDiff, Int.reduceLT, Int.reduceLE, Int.reduceEq, Int.reduceNeg, Int.reduceAdd, Int.reduceMul, Int.reduceSub, Int.reduceToNat, reduceCtorEq, dec_t, dec_f, cb]
  refine eqP_ct hp.rz hf h1 r1 r2 hL hws fun H2 h2 => ?_
  rw [decide_eq_true hk]
  simp -implicitDefEqProofs -dsimp (disch := omega) only [go_sem, Nat.reduceEqDiff, ↓reduceIte, Nat.reduceAdd, Nat.reduceMul, Nat.reduceSub, Nat.reduceLT, Nat.reduceLeDiff, Int.reduceLT, Int.reduceLE, Int.reduceEq, Int.reduceNeg, Int.reduceAdd, Int.reduceMul, Int.reduceSub, Int.reduceToNat, reduceCtorEq, dec_t, dec_f, ]
  refine wakes10_ct hp.bm hp.rz hp.ru hp.co hp.w h2 fun H3 h3 => ?_
  simp -implicitDefEqProofs -dsimp (disch := omega) only [go_sem, Nat.reduceEqDiff, ↓reduceIte, Nat.reduceAdd, Nat.reduceMul, Nat.reduceSub, Nat.reduceLT, Nat.reduceLeDiff, Int.reduceLT, Int.reduceLE, Int.reduceEq, Int.reduceNeg, Int.reduceAdd, Int.reduceMul, Int.reduceSub, Int.reduceToNat, reduceCtorEq, dec_t, dec_f, ]
set_option maxHeartbeats 1000000 in
theorem cb_rest {ex0 : List (Nat × V)} (hp : HasL10 P) (hf : HasRfc P) {b : Nat} {pv : V} {w h : Int} {L : List PcO} (hw : i64r w) (hh : i64r h) (hs : Hs H (Cel b [pv, .int .i64 w, .int .i64 h] :: R)) (hr : PcsRd R pv L) (hL : L.length * 56 ≤ 140737488351232) (hws : ∀ o ∈ L, o.ws.length ≤ 17592186044415) :
    wpC (Call P) cbRest (fin P true [.t 2] fun o _ => o = .ret (.bool true)) ⟨(1, .ptr (some (b, 0))) :: ex0, []⟩ H := by
  simp -implicitDefEqProofs -dsimp (disch := omega) only [go_sem, Nat.reduceEqDiff, ↓reduceIte, Nat.reduceAdd, Nat.reduceMul, Nat.reduceSub, Nat.reduceLT, Nat.reduceLeDiff, Int.reduceLT, Int.reduceLE, Int.reduceEq, Int.reduceNeg, Int.reduceAdd, Int.reduceMul, Int.reduceSub, Int.reduceToNat, reduceCtorEq, dec_t, dec_f, cbRest]
  refine cb_loop hp hs hr (by omega) hws (fun H1 ex hsum h1 => ?_) (fun H1 ex => ?_)
  rotate_left
  · simp -implicitDefEqProofs -dsimp (disch := omega) only [go_sem, Nat.reduceEqDiff, ↓reduceIte, Nat.reduceAdd, Nat.reduceMul, Nat.reduceSub, Nat.reduceLT, Nat.reduceLeDiff, Int.reduceLT, Int.reduceLE, Int.reduceEq, Int.reduceNeg, Int.reduceAdd, Int.reduceMul, Int.reduceSub, Int.reduceToNat, reduceCtorEq, dec_t, dec_f, ]
  obtain ⟨pa, pc, pe, rfl⟩ := (hr.arr H1 h1.tail).shape
  have c1 := rd_s h1.cel
  simp -implicitDefEqProofs -dsimp (disch := omega) only [go_sem, Nat.reduceEqDiff, ↓reduceIte, Nat.reduceAdd, Nat.reduceMul, Nat.reduceSub, Nat.reduceLT, Nat.reduceLeDiff, Int.reduceLT, Int.reduceLE, Int.reduceEq, Int.reduceNeg, Int.reduceAdd, Int.reduceMul, Int.reduceSub, Int.reduceToNat, reduceCtorEq, dec_t, dec_f, c1]
  have hr1 : PcsRd (Cel b [.sl pa L.length pc pe, .int .i64 w, .int .i64 h] :: R) (.sl pa L.length pc pe) L := hr.mono fun _ h => h.tail
  refine copyP_ct hp.rz hf h1 hr1 hL (fun o ho => by have := sumW_mem ho; omega) fun ov L' H2 hk h2 => ?_
  have hkl : L'.length = L.length := by simpa using congrArg List.length hk
  have mb : ∀ {X : List As}, Cel b [.sl pa L.length pc pe, .int .i64 w, .int .i64 h] ∈ X ++ StO ov L' (Cel b [.sl pa L.length pc pe, .int .i64 w, .int .i64 h] :: R) := fun {X} => List.mem_append_right _ (List.mem_cons_of_mem _ (List.mem_append_right _ (List.mem_cons_self ..)))
  have dr : ∀ {X : List As} {H' : Heap}, Hs H' (X ++ StO ov L' (Cel b [.sl pa L.length pc pe, .int .i64 w, .int .i64 h] :: R)) → Hs H' R := fun {X H'} h => ((h.drops.tail).drops).tail
  have dO : ∀ {X : List As} {H' : Heap}, Hs H' (X ++ StO ov L' (Cel b [.sl pa L.length pc pe, .int .i64 w, .int .i64 h] :: R)) → Hs H' (StO ov L' (Cel b [.sl pa L.length pc pe, .int .i64 w, .int .i64 h] :: R)) := fun {X H'} h => h.drops
  have rO : PcsRd (StO ov L' (Cel b [.sl pa L.length pc pe, .int .i64 w, .int .i64 h] :: R)) ov L' := stO_rd hk hr.lt hr.r
  have hws' : ∀ o ∈ L', o.ws.length ≤ 281474976710656 := fun o ho => by
    have : o.key ∈ L.map PcO.key := by rw [← hk]; exact List.mem_map_of_mem ho
    obtain ⟨q, g1, g2⟩ := List.mem_map.1 this
    simp only [PcO.key, Prod.mk.injEq] at g2
    have := hws q g1
    rw [g2.2.2.2.2] at this; omega
  have c2 := rd_s (h2.celm (mb (X := [])))
  simp -implicitDefEqProofs -dsimp (disch := omega) only [go_sem, Nat.reduceEqDiff, ↓reduceIte, Nat.reduceAdd, Nat.reduceMul, Nat.reduceSub, Nat.reduceLT, Nat.reduceLeDiff, Int.reduceLT, Int.reduceLE, Int.reduceEq, Int.reduceNeg, Int.reduceAdd, Int.reduceMul, Int.reduceSub, Int.reduceToNat, reduceCtorEq, dec_t, dec_f, c2]
  by_cases good : sizeOk w h ∧ ∀ o ∈ L, poOk o
  · obtain ⟨g1, g2⟩ := good
    have g3 := poOk_key hk g2
    refine compsBack_ct hp.bm hp.co h2 rO hw hh (by omega) (fun k => absurd ⟨g1, g3⟩ k) fun _ _ v1 H3 h3 => ?_
    rw [bkPx_key hk] at h3
    obtain ⟨va, vn, vc, ve, rfl⟩ : ∃ a n c e, v1 = V.sl a n c e := by obtain ⟨vb, kv⟩ := bmV h3; exact ⟨_, _, _, _, kv.val⟩
    have h4 := h3.alloc (l := [.int .i64 w, .int .i64 h, .sl va vn vc ve])
    have c3 := rd_s (h3.celm (mb (X := [_])))
    have hbl := (h3.ofmem (mb (X := [_]))).celt
    have hne : ¬ b = H3.next := by omega
    simp -implicitDefEqProofs -dsimp (disch := omega) only [go_sem, Nat.reduceEqDiff, ↓reduceIte, Nat.reduceAdd, Nat.reduceMul, Nat.reduceSub, Nat.reduceLT, Nat.reduceLeDiff, Int.reduceLT, Int.reduceLE, Int.reduceEq, Int.reduceNeg, Int.reduceAdd, Int.reduceMul, Int.reduceSub, Int.reduceToNat, reduceCtorEq, dec_t, dec_f, c3, hne, if_false]
    generalize H3.new _ = H4 at *
    generalize H3.next = b6 at *
    refine refBack_ct hp.rz hf h4 (hr.mono fun _ h => dr (X := [_, _]) h) hw hh (by omega) (fun k => absurd ⟨g1, g2⟩ k) fun _ _ v2 H5 h5 => ?_
    obtain ⟨wa, wn, wc, we, rfl⟩ : ∃ a n c e, v2 = V.sl a n c e := by obtain ⟨vb, kv⟩ := bmV h5; exact ⟨_, _, _, _, kv.val⟩
    have h6 := h5.alloc (l := [.int .i64 w, .int .i64 h, .sl wa wn wc we])
    simp -implicitDefEqProofs -dsimp (disch := omega) only [go_sem, Nat.reduceEqDiff, ↓reduceIte, Nat.reduceAdd, Nat.reduceMul, Nat.reduceSub, Nat.reduceLT, Nat.reduceLeDiff, Int.reduceLT, Int.reduceLE, Int.reduceEq, Int.reduceNeg, Int.reduceAdd, Int.reduceMul, Int.reduceSub, Int.reduceToNat, reduceCtorEq, dec_t, dec_f, ]
    generalize H5.new _ = H6 at *
    generalize H5.next = b8 at *
    have hle := sizeOk_le g1
    refine cb_fin (ex := []) hp hf (S := _) (b6 := b6) (b8 := b8) (bw := w) (bh := h) (v1 := .sl va vn vc ve) (v2 := .sl wa wn wc we) (ws := Wds w.toNat h.toNat (bkPx L)) h6 (by simp) (by simp) (mb (X := [_, _, _, _])) (fun H' h' => Hs.bmarr (v := .sl va vn vc ve) (w := w.toNat) (h := h.toNat) (p := bkPx L) h' (by simp)) (fun H' h' => Hs.bmarr (v := .sl wa wn wc we) (w := w.toNat) (h := h.toNat) (p := bkPx L) h' (by simp)) (rO.mono fun _ h => dO (X := [_, _, _, _]) h) (hr.mono fun _ h => dr (X := [_, _, _, _]) h) hk (by omega) hws' ?_
    rw [Wds_length]
    obtain ⟨z1, z2, z3⟩ := g1
    have := wds_le (w := w.toNat) (h := h.toNat) (by
      have : ((w.toNat * h.toNat : Nat) : Int) ≤ 1048576 := by rw [Int.natCast_mul, Int.toNat_of_nonneg (by omega), Int.toNat_of_nonneg (by omega)]; exact z3
      omega) (by omega)
    omega
  · have good' : ¬ (sizeOk w h ∧ ∀ o ∈ L', poOk o) := fun k => good ⟨k.1, poOk_key hk.symm k.2⟩
    refine compsBack_ct hp.bm hp.co h2 rO hw hh (by omega) (fun _ H3 h3 => ?_) (fun k1 k2 => absurd ⟨k1, k2⟩ good')
    have h4 := h3.alloc (l := [.int .i64 0, .int .i64 0, .sl none 0 0 0])
    have c3 := rd_s (h3.celm (mb (X := [])))
    have hbl := (h3.ofmem (mb (X := []))).celt
    have hne : ¬ b = H3.next := by omega
    simp -implicitDefEqProofs -dsimp (disch := omega) only [go_sem, Nat.reduceEqDiff, ↓reduceIte, Nat.reduceAdd, Nat.reduceMul, Nat.reduceSub, Nat.reduceLT, Nat.reduceLeDiff, Int.reduceLT, Int.reduceLE, Int.reduceEq, Int.reduceNeg, Int.reduceAdd, Int.reduceMul, Int.reduceSub, Int.reduceToNat, reduceCtorEq, dec_t, dec_f, c3, hne, if_false]
    generalize H3.new _ = H4 at *
    generalize H3.next = b6 at *
    refine refBack_ct hp.rz hf h4 (hr.mono fun _ h => dr (X := [_]) h) hw hh (by omega) (fun _ H5 h5 => ?_) (fun k1 k2 => absurd ⟨k1, k2⟩ good)
    have h6 := h5.alloc (l := [.int .i64 0, .int .i64 0, .sl none 0 0 0])
    simp -implicitDefEqProofs -dsimp (disch := omega) only [go_sem, Nat.reduceEqDiff, ↓reduceIte, Nat.reduceAdd, Nat.reduceMul, Nat.reduceSub, Nat.reduceLT, Nat.reduceLeDiff, Int.reduceLT, Int.reduceLE, Int.reduceEq, Int.reduceNeg, Int.reduceAdd, Int.reduceMul, Int.reduceSub, Int.reduceToNat, reduceCtorEq, dec_t, dec_f, ]
    generalize H5.new _ = H6 at *
    generalize H5.next = b8 at *
    exact cb_fin (ex := []) hp hf (S := _) (b6 := b6) (b8 := b8) (bw := 0) (bh := 0) (v1 := .sl none 0 0 0) (v2 := .sl none 0 0 0) (ws := []) h6 (by simp) (by simp) (mb (X := [_, _])) (fun H' h' => (own_nil H' 1).arr) (fun H' h' => (own_nil H' 1).arr) (rO.mono fun _ h => dO (X := [_, _]) h) (hr.mono fun _ h => dr (X := [_, _]) h) hk (by omega) hws' (by simp)
set_option maxHeartbeats 1000000 in
theorem compsBackL (hp : HasL10 P) (hf : HasRfc P) (hg : P 192 = some burinlaw10_CompsBack) {pv : V} {w h : Int} {L : List PcO} (hw : i64r w) (hh : i64r h) (harr : Arr H pv 5 L.length (poCells L)) (hpc : ∀ o ∈ L, PcOk H o) (hL : L.length * 56 ≤ 140737488351232) :
    Call P 192 [.agg [pv, .int .i64 w, .int .i64 h]] H fun o _ => o = .ret (.bool true) := by
  refine call_of (c := .seq (.reg false [1] [⟨some 1, .box 3 (.t 0), none, 0, []⟩,
    ⟨some 2, .mv (.c (.bool false)), none, 0, []⟩])
  (.seq (.seq (.reg false [1, 23] [⟨some 10, .fad 1 (.t 1), none, 0, []⟩,
    ⟨some 11, .load none (.t 10), none, 0, []⟩,
    ⟨some 12, .fad 2 (.t 1), none, 0, []⟩,
    ⟨some 13, .load none (.t 12), none, 0, []⟩,
    ⟨some 14, .call (.f 74) [(.t 11), (.t 13)], none, 0, []⟩,
    ⟨some 15, .mv (.t 14), none, 0, []⟩,
    ⟨some 16, .fad 1 (.t 1), some (15, true), 0, []⟩,
    ⟨some 17, .load none (.t 16), some (15, true), 0, []⟩,
    ⟨some 18, .bin .add .num (.t 17) (.c (.int .i64 64)), some (15, true), 0, []⟩,
    ⟨some 19, .fad 2 (.t 1), some (15, true), 0, []⟩,
    ⟨some 20, .load none (.t 19), some (15, true), 0, []⟩,
    ⟨some 21, .bin .mul .num (.t 18) (.t 20), some (15, true), 0, []⟩,
    ⟨some 22, .bin .gtr .num (.t 21) (.c (.int .i64 20000)), some (15, true), 0, []⟩,
    ⟨some 23, .pick (.t 15) (.t 22) (.c (.bool false)), none, 0, []⟩])
  (.cond (.t 23) (.seq (.reg false [2] [⟨some 24, .call (.f 178) [], none, 0, []⟩,
    ⟨some 2, .mv (.t 24), none, 0, []⟩])
  (.ret))
  (.skip)))
  cbRest)) hg rfl ?_
  have h1 := (Hs.start H).alloc (l := [pv, .int .i64 w, .int .i64 h])
  have hr : PcsRd [Bas H] pv L := ⟨fun H' h' => harr.same h'.base fun _ _ h => h, fun o ho H' h' => (hpc o ho).b.arr.same h'.base fun _ _ h => h, fun o ho => (hpc o ho).b.lt, fun o ho => ⟨(hpc o ho).x, (hpc o ho).y, (hpc o ho).b.w, (hpc o ho).b.h⟩⟩
  have hws : ∀ o ∈ L, o.ws.length ≤ 17592186044415 := fun o ho => (hpc o ho).b.len
  obtain ⟨pa, pc, pe, rfl⟩ := harr.shape
  simp -implicitDefEqProofs -dsimp (disch := omega) only [go_sem, Nat.reduceEqDiff, ↓reduceIte, Nat.reduceAdd, Nat.reduceMul, Nat.reduceSub, Nat.reduceLT, Nat.reduceLeDiff, Int.reduceLT, Int.reduceLE, Int.reduceEq, Int.reduceNeg, Int.reduceAdd, Int.reduceMul, Int.reduceSub, Int.reduceToNat, reduceCtorEq, dec_t, dec_f, ]
  generalize H.new _ = H1 at *
  generalize H.next = b at *
  have c1 := rd_s h1.cel
  refine sizeR_ct hp.rz hw hh ?_
  by_cases k : sizeOk w h
  · rw [decide_eq_true k]
    have hle := sizeOk_le k
    obtain ⟨k1, k2, k3⟩ := k
    have e1 : (w + 64) * h = w * h + 64 * h := by rw [Int.add_mul]
    have e0 : 0 ≤ w * h := Int.mul_nonneg (by omega) (by omega)
    have e2 : IntKind.wrap .i64 ((w + 64) * h) = (w + 64) * h := w64 (by omega)
    by_cases big : (w + 64) * h > 20000
    · simp -implicitDefEqProofs -dsimp (disch := omega) only [go_sem, Nat.reduceEqDiff, ↓reduceIte, Nat.reduceAdd, Nat.reduceMul, Nat.reduceSub, Nat.reduceLT, Nat.reduceLeDiff, Int.reduceLT, Int.reduceLE, Int.reduceEq, Int.reduceNeg, Int.reduceAdd, Int.reduceMul, Int.reduceSub, Int.reduceToNat, reduceCtorEq, dec_t, dec_f, c1, w64, e2]
      refine wakes10_ct hp.bm hp.rz hp.ru hp.co hp.w h1 fun H2 h2 => ?_
      simp -implicitDefEqProofs -dsimp (disch := omega) only [go_sem, Nat.reduceEqDiff, ↓reduceIte, Nat.reduceAdd, Nat.reduceMul, Nat.reduceSub, Nat.reduceLT, Nat.reduceLeDiff, Int.reduceLT, Int.reduceLE, Int.reduceEq, Int.reduceNeg, Int.reduceAdd, Int.reduceMul, Int.reduceSub, Int.reduceToNat, reduceCtorEq, dec_t, dec_f, ]
    · simp -implicitDefEqProofs -dsimp (disch := omega) only [go_sem, Nat.reduceEqDiff, ↓reduceIte, Nat.reduceAdd, Nat.reduceMul, Nat.reduceSub, Nat.reduceLT, Nat.reduceLeDiff, Int.reduceLT, Int.reduceLE, Int.reduceEq, Int.reduceNeg, Int.reduceAdd, Int.reduceMul, Int.reduceSub, Int.reduceToNat, reduceCtorEq, dec_t, dec_f, c1, w64, e2]
      exact cb_rest hp hf hw hh h1 hr hL hws
  · rw [decide_eq_false k]
    simp -implicitDefEqProofs -dsimp (disch := omega) only [go_sem, Nat.reduceEqDiff, ↓reduceIte, Nat.reduceAdd, Nat.reduceMul, Nat.reduceSub, Nat.reduceLT, Nat.reduceLeDiff, Int.reduceLT, Int.reduceLE, Int.reduceEq, Int.reduceNeg, Int.reduceAdd, Int.reduceMul, Int.reduceSub, Int.reduceToNat, reduceCtorEq, dec_t, dec_f, ]
    exact cb_rest hp hf hw hh h1 hr hL hws
end
theorem law_CompsBack {P : Prog} (hp : HasL10 P) (hf : HasRfc P) (hg : P 192 = some burinlaw10_CompsBack) (H : Heap) (cs : List V) (x : TD.Ty laidTD) (h : Is H laidTD cs x) : Call P 192 [argV laidTD cs] H fun o _ => o = .ret (.bool true) := by
  obtain ⟨a, r, e, h1, a2, r2, e2, ⟨h2, h2'⟩, a3, r3, e3, ⟨h3, h3'⟩, h4⟩ := h
  obtain ⟨v, L, g1, g2, g3, g4⟩ := h1
  obtain ⟨l, k1, k2, k3⟩ := split_pcs g3
  rw [show cs = [v, .int .i64 x.2.1, .int .i64 x.2.2.1] by rw [e, e2, e3, g1, h2, h3, show r3 = [] from h4]; rfl]
  exact compsBackL hp hf hg h2' h3' (by rw [k2, ← k1]; exact g2) k3 (by omega)
end Go.Ab
