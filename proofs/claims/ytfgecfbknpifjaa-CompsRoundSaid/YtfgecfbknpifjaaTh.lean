/- Boxes become pieces: the last loops of comps.Of. Conditions: none. -/
import Derived.Test.YtfgecfbknpifjaaTg
set_option linter.all false
namespace Go.Ab
/-- A box's pixels. -/
def boxPx (b : BoxP) : Nat → Nat → Bool := b.l.foldl (fun p q => fillP p (q.1.1 - b.x) ((q.2 : Int) - (b.y : Nat)) (q.1.2 - q.1.1) 1 true) fun _ _ => false
def plOk (w h : Nat) (q : Plc) : Prop := 0 ≤ q.1.1 ∧ q.1.1 < q.1.2 ∧ q.1.2 ≤ w ∧ q.2 < h
structure BxOk (w h : Nat) (b : BoxP) : Prop where
  x0 : 0 ≤ b.x
  xr : b.x < b.r
  rw : b.r ≤ w
  yb : b.y < b.b
  bh : b.b ≤ h
  l : ∀ q ∈ b.l, plOk w h q
section
variable {P : Prog} {H : Heap} {R : List As}
set_option maxHeartbeats 1000000 in
theorem of_fill (hb : HasBm P) {Q : Post} {t : Tag Q} {s : Tag comps_Of_l1} {bx : BoxR} {w h mm n i : Nat} {mv ov rv : V} {wd ht : Nat} {T : List As} (ok : BxOk w h bx.p) (hw : w ≤ 1048576) (hh : h ≤ 1048576) (hll : bx.p.l.length ≤ 1048576)
    (mc : Cel bx.blk bx.cs ∈ T) (ml : Lst bx.lv 3 bx.p.l.length (pcells bx.p.l) ∈ T) (hs : Hs H (MapA mm wd ht (fun _ _ => false) :: T))
    (hK : ∀ H' ex, Hs H' (MapA mm wd ht (boxPx bx.p) :: T) → Q (.exit 10) ⟨(13, mv) :: (21, ov) :: (24, .ptr (some (bx.blk, 0))) :: (25, .ptr (some (mm, 0))) :: (169, rv) :: (170, .int .i64 (n : Nat)) :: (171, .int .i64 (i : Nat)) :: ex, []⟩ H') :
    loopL (Call P) [13, 21, 24, 25, 169, 170, 171, 206, 207, 208] comps_Of_l1 Q t s
      ⟨[(13, mv), (21, ov), (24, .ptr (some (bx.blk, 0))), (25, .ptr (some (mm, 0))), (169, rv), (170, .int .i64 (n : Nat)), (171, .int .i64 (i : Nat)), (206, bx.lv), (207, .int .i64 (bx.p.l.length : Nat)), (208, .int .i64 ((0 : Nat) : Int))], []⟩ H := by
  obtain ⟨⟨rt, x, y, r, b, l⟩, blk, lv⟩ := bx
  obtain ⟨o1, o2, o3, o4, o5, o6⟩ := ok
  dsimp only [BoxR.cs] at *
  refine loop_cnt l.length (fun j => ⟨[(13, mv), (21, ov), (24, .ptr (some (blk, 0))), (25, .ptr (some (mm, 0))), (169, rv), (170, .int .i64 (n : Nat)), (171, .int .i64 (i : Nat)), (206, lv), (207, .int .i64 (l.length : Nat)), (208, .int .i64 (j : Nat))], []⟩)
    (fun j H => Hs H (MapA mm wd ht ((l.take j).foldl (fun p (q : Plc) => fillP p (q.1.1 - x) ((q.2 : Int) - (y : Nat)) (q.1.2 - q.1.1) 1 true) fun _ _ => false) :: T)) (fun j H1 K hj h1 hn hx hrr => ?_) 0 H (Nat.zero_le _) hs
  by_cases hlt : j < l.length
  · obtain ⟨lb, lo, lc, rfl, r1⟩ := pc_rd (h1.ownm (List.mem_cons_of_mem _ ml)).arr hlt
    have hq := o6 _ (List.getElem_mem hlt)
    have etk : l.take (j + 1) = l.take j ++ [l[j]] := (List.take_append_getElem hlt).symm
    generalize l[j] = q at r1 hq etk
    obtain ⟨⟨q1, q2⟩, qy⟩ := q
    obtain ⟨p1, p2, p3, p4⟩ := hq
    dsimp only at p1 p2 p3 p4 r1
    have h2 := h1.alloc (l := [.int .i64 q1, .int .i64 q2, .int .i64 (qy : Nat)])
    have c2 := rd_s (h1.celm (b := blk) (List.mem_cons_of_mem _ mc))
    have hbl := (h1.ofmem (List.mem_cons_of_mem _ mc)).celt
    have hne : ¬ blk = H1.next := by omega
    simp -implicitDefEqProofs -dsimp (disch := omega) only [go_sem, Nat.reduceEqDiff, ↓reduceIte, Nat.reduceAdd, Nat.reduceMul, Nat.reduceSub, Nat.reduceLT, Nat.reduceLeDiff, Int.reduceLT, Int.reduceLE, Int.reduceEq, Int.reduceNeg, Int.reduceAdd, Int.reduceMul, Int.reduceSub, Int.reduceToNat, reduceCtorEq, dec_t, dec_f, comps_Of_l1, Int.toNat_natCast, r1, c2, hne, if_false, w64]
    refine fill_ct hb h2.p1 (by unfold i64r; omega) (by unfold i64r; omega) (by unfold i64r; omega) (by unfold i64r; omega) fun H3 h3 => ?_
    have ef : fillR (q2 - q1) 1 1 = 0 := by unfold fillR; rw [if_neg (by omega), if_pos (by omega)]
    rw [ef, if_pos rfl] at h3
    simp -implicitDefEqProofs -dsimp (disch := omega) only [go_sem, Nat.reduceEqDiff, ↓reduceIte, Nat.reduceAdd, Nat.reduceMul, Nat.reduceSub, Nat.reduceLT, Nat.reduceLeDiff, Int.reduceLT, Int.reduceLE, Int.reduceEq, Int.reduceNeg, Int.reduceAdd, Int.reduceMul, Int.reduceSub, Int.reduceToNat, reduceCtorEq, dec_t, dec_f, w64, cadd1]
    refine hn hlt H3 ?_
    rw [etk, List.foldl_append]
    exact h3.p1.tail
  · obtain rfl : j = l.length := by omega
    simp -implicitDefEqProofs -dsimp (disch := omega) only [go_sem, Nat.reduceEqDiff, ↓reduceIte, Nat.reduceAdd, Nat.reduceMul, Nat.reduceSub, Nat.reduceLT, Nat.reduceLeDiff, Int.reduceLT, Int.reduceLE, Int.reduceEq, Int.reduceNeg, Int.reduceAdd, Int.reduceMul, Int.reduceSub, Int.reduceToNat, reduceCtorEq, dec_t, dec_f, comps_Of_l1]
    rw [hx]
    refine hK H1 _ ?_
    rw [List.take_length] at h1
    exact h1
end
end Go.Ab
