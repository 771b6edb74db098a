/- A segment is copied. Conditions: none. -/
import Derived.Test.YtnpdnkmnnmmagaaSu
import Derived.Test.YtnpdnkmnnmmagaaSr
set_option linter.all false
namespace Go.Ab
section
variable {P : Prog} {H : Heap} {R : List As} {Q : Out → Heap → Prop}
theorem copyInts_ct (hp : HasRf16 P) {x : V} {l : List Int} (hx : Arr H x 1 l.length (i64s l)) (hl : l.length ≤ 1000000) (hs : Hs H R) (hQ : ∀ v H', Hs H' (Lst v 1 l.length (i64s l) :: R) → Q (.ret v) H') : Call P 173 [x] H Q := by
  refine call_of hp.h_burinref0_CopyInts rfl ?_
  obtain ⟨v', H', h1, h2, h3, h4⟩ := app_nil (H := H) (e := 1) (eb := 8) (firsts_arr hx) (by simp [i64s]) (by simp [i64s, one]) (by omega)
  simp -implicitDefEqProofs -dsimp (disch := omega) only [go_sem, Nat.reduceEqDiff, ↓reduceIte, Nat.reduceAdd, Nat.reduceMul, Nat.reduceSub, Nat.reduceLT, Nat.reduceLeDiff, Int.reduceLT, Int.reduceLE, Int.reduceEq, Int.reduceNeg, Int.reduceAdd, Int.reduceMul, Int.reduceSub, Int.reduceToNat, reduceCtorEq, dec_t, dec_f, h1]
  exact hQ v' H' (hs.lst h3 h2 h4)
def csF (a : V) (x : Nat × V) : Fr := ⟨[(0, a), (3, x.2), (4, .int .i64 (x.1 : Nat))], []⟩
set_option maxHeartbeats 2000000 in
theorem copy1_ct (hp : HasRf16 P) (hc : P 27 = some burinref0_Copy) {b o c : Nat} {v1 v2 v3 : V} {s : Sg} (hl1 : s.refs.length ≤ 5000) (hl2 : s.keep.length ≤ 140737488355328) (hl3 : s.data.length ≤ 100000) (hs : Hs H R)
    (hR : ∀ H', Hs H' R → rd H' (some 7) b o = some (.agg (s.cells v1 v2 v3)) ∧ SgR H' v1 v2 v3 s) (hQ : ∀ w w1 w2 w3 H', Hs H' (Lst w 7 1 (s.cells w1 w2 w3) :: sgT w1 w2 w3 s R) → Q (.ret w) H') :
    Call P 174 [.sl (some (b, o)) 1 c 7] H Q := by
  refine call_of hp.h_burinref0_CopySegments rfl ?_
  simp -implicitDefEqProofs -dsimp (disch := omega) only [go_sem, Nat.reduceEqDiff, ↓reduceIte, Nat.reduceAdd, Nat.reduceMul, Nat.reduceSub, Nat.reduceLT, Nat.reduceLeDiff, Int.reduceLT, Int.reduceLE, Int.reduceEq, Int.reduceNeg, Int.reduceAdd, Int.reduceMul, Int.reduceSub, Int.reduceToNat, reduceCtorEq, dec_t, dec_f, ]
  refine loop_dec (σ := Nat × V) (fun x => 1 - x.1) (csF (.sl (some (b, o)) 1 c 7)) (fun x H => (x.1 = 0 ∧ x.2 = .sl none 0 0 0 ∧ Hs H R) ∨ (x.1 = 1 ∧ ∃ w1 w2 w3, Hs H (Lst x.2 7 1 (s.cells w1 w2 w3) :: sgT w1 w2 w3 s R))) (fun x H K ok hn hx hy => ?_) (0, .sl none 0 0 0) H (Or.inl ⟨rfl, rfl, hs⟩)
  obtain ⟨i, v⟩ := x
  unfold csF
  rcases ok with ⟨hi, hv, h⟩ | ⟨hi, w1, w2, w3, h⟩
  · dsimp only at hi hv
    subst hi hv
    obtain ⟨rl, sr⟩ := hR H h
    obtain ⟨a1, c1, e1, hv1⟩ := sr.refs.shape
    obtain ⟨a2, c2, e2, hv2⟩ := sr.keep.shape
    obtain ⟨a3, c3, e3, hv3⟩ := sr.data.shape
    subst hv1 hv2 hv3
    obtain ⟨num, kind, page, refs, keep, stay, data⟩ := s
    unfold Sg.cells at *
    dsimp only at *
    have g1 := h.alloc (l := [.int .i64 num, .int .i64 kind, .int .i64 page, .sl a1 refs.length c1 e1, .sl a2 keep.length c2 e2, .bool stay, .sl a3 data.length c3 e3])
    have r1 := rd_s g1.cel
    simp -implicitDefEqProofs -dsimp (disch := omega) only [go_sem, Nat.reduceEqDiff, ↓reduceIte, Nat.reduceAdd, Nat.reduceMul, Nat.reduceSub, Nat.reduceLT, Nat.reduceLeDiff, Int.reduceLT, Int.reduceLE, Int.reduceEq, Int.reduceNeg, Int.reduceAdd, Int.reduceMul, Int.reduceSub, Int.reduceToNat, reduceCtorEq, dec_t, dec_f, burinref0_CopySegments_l0, Int.toNat_natCast, Nat.zero_mul, Nat.add_zero, rl, r1]
    generalize H.new _ = H1 at *
    generalize H.next = b5 at *
    refine copyInts_ct hp (hR H1 g1.tail).2.refs (by dsimp only; omega) g1 fun w1 H2 g2 => ?_
    have g2 := Hs.p1 g2
    obtain ⟨wa, wc, we, rfl⟩ := (Hs.p1 g2).own.arr.shape
    have w3 := wr_s g2.cel 3
    have g3 := g2.put (l' := [.int .i64 num, .int .i64 kind, .int .i64 page, .sl wa refs.length wc we, .sl a2 keep.length c2 e2, .bool stay, .sl a3 data.length c3 e3])
    have r3 := rd_s g3.cel
    have hk3 := (hR _ g3.tail.tail).2.keep
    obtain ⟨w2, H4, ha4, o4, s4, f4⟩ := app_nil (e := 1) (eb := 1) (firsts_arr hk3) (by simp [bools]) (by simp [bools, one]) (by dsimp only; omega)
    have g4 := g3.lst s4 o4 f4
    obtain ⟨xa, xc, xe, rfl⟩ := o4.arr.shape
    dsimp only at ha4 g4
    have w4 := wr_s (Hs.p1 g4).cel 4
    have g5 := (Hs.p1 g4).put (l' := [.int .i64 num, .int .i64 kind, .int .i64 page, .sl wa refs.length wc we, .sl xa keep.length xc xe, .bool stay, .sl a3 data.length c3 e3])
    have r5 := rd_s g5.cel
    simp -implicitDefEqProofs -dsimp (disch := omega) only [go_sem, Nat.reduceEqDiff, ↓reduceIte, Nat.reduceAdd, Nat.reduceMul, Nat.reduceSub, Nat.reduceLT, Nat.reduceLeDiff, Int.reduceLT, Int.reduceLE, Int.reduceEq, Int.reduceNeg, Int.reduceAdd, Int.reduceMul, Int.reduceSub, Int.reduceToNat, reduceCtorEq, dec_t, dec_f, w3, r3, ha4, w4, r5]
    have hd5 := (hR _ g5.tail.tail.tail).2.data
    refine copy_ct hc hd5 (by dsimp only; omega) fun w3' H6 b6 s6 f6 => ?_
    have g6 := g5.lst s6 b6 f6
    obtain ⟨ya, yc, ye, rfl⟩ := b6.arr.shape
    have w6 := wr_s (Hs.p1 g6).cel 6
    have g7 := (Hs.p1 g6).put (l' := [.int .i64 num, .int .i64 kind, .int .i64 page, .sl wa refs.length wc we, .sl xa keep.length xc xe, .bool stay, .sl ya data.length yc ye])
    have r7 := rd_m g7.cel 7
    obtain ⟨w9, H9, ha9, o9, s9, f9⟩ := app_nil (H := (H6.put b5 (.cells [.int .i64 num, .int .i64 kind, .int .i64 page, .sl wa refs.length wc we, .sl xa keep.length xc xe, .bool stay, .sl ya data.length yc ye] true)).new (.cells [.int .i64 num, .int .i64 kind, .int .i64 page, .sl wa refs.length wc we, .sl xa keep.length xc xe, .bool stay, .sl ya data.length yc ye] true)) (e := 7) (eb := 104) (m := 1) (firsts_new _ _ 7 1 rfl) rfl rfl (by omega)
    have g9 := (g7.keep (Same.new _ _ _)).lst s9 o9 f9
    rw [next_put] at ha9
    obtain ⟨za, zc, ze, rfl⟩ := o9.arr.shape
    simp -implicitDefEqProofs -dsimp (disch := omega) only [go_sem, Nat.reduceEqDiff, ↓reduceIte, Nat.reduceAdd, Nat.reduceMul, Nat.reduceSub, Nat.reduceLT, Nat.reduceLeDiff, Int.reduceLT, Int.reduceLE, Int.reduceEq, Int.reduceNeg, Int.reduceAdd, Int.reduceMul, Int.reduceSub, Int.reduceToNat, reduceCtorEq, dec_t, dec_f, w6, r7, ha9, w64]
    refine hn (1, .sl za 1 zc ze) _ (by dsimp only; omega) (Or.inr ⟨rfl, .sl wa refs.length wc we, .sl xa keep.length xc xe, .sl ya data.length yc ye, ?_⟩)
    unfold sgT
    dsimp only
    exact Hs.perm (Hs.p1 g9).tail (List.Perm.cons _ ((List.reverse_perm [Lst (.sl wa refs.length wc we) 1 refs.length (i64s refs), Lst (.sl xa keep.length xc xe) 1 keep.length (bools keep), Lst (.sl ya data.length yc ye) 1 data.length (u8s data)]).append_right R))
  · dsimp only at hi h
    subst hi
    simp -implicitDefEqProofs -dsimp (disch := omega) only [go_sem, Nat.reduceEqDiff, ↓reduceIte, Nat.reduceAdd, Nat.reduceMul, Nat.reduceSub, Nat.reduceLT, Nat.reduceLeDiff, Int.reduceLT, Int.reduceLE, Int.reduceEq, Int.reduceNeg, Int.reduceAdd, Int.reduceMul, Int.reduceSub, Int.reduceToNat, reduceCtorEq, dec_t, dec_f, burinref0_CopySegments_l0]
    rw [hx]
    simp -implicitDefEqProofs -dsimp (disch := omega) only [go_sem, Nat.reduceEqDiff, ↓reduceIte, Nat.reduceAdd, Nat.reduceMul, Nat.reduceSub, Nat.reduceLT, Nat.reduceLeDiff, Int.reduceLT, Int.reduceLE, Int.reduceEq, Int.reduceNeg, Int.reduceAdd, Int.reduceMul, Int.reduceSub, Int.reduceToNat, reduceCtorEq, dec_t, dec_f, ]
    exact hQ _ _ _ _ _ h
end
end Go.Ab
