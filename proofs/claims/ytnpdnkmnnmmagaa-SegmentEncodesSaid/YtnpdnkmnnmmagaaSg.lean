/- Segments: a header is read. Conditions: none. -/
import Derived.Test.YtnpdnkmnnmmagaaSf
set_option linter.all false
namespace Go.Ab
def headR (bs : List Nat) : Except Int (Sg × Nat × Nat) :=
  exb (numR bs 32768 0) fun p => exb (takR bs p.2 8) fun q => if kindOk q.1 then exb (numR bs 65 q.2) fun g => if pagedP (pageK q.1) g.1 then exb (numR bs (p.1 + 1) g.2) fun c => if 0 < c.1 ∧ ¬ refsK q.1 then .error 161 else
    exb (refsR bs p.1 c.1 (-1) c.2) fun l => exb (keepR bs c.1 l.2) fun k => exb (flgR bs k.2) fun st => if st.1 = true ∧ ¬ (q.1 : Int) = 2 then .error 161 else exb (alnR bs st.2) fun a => exb (numR bs 67108865 a) fun n => if 0 < n.1 ∧ ¬ dataK q.1 then .error 161 else
      .ok (⟨p.1, q.1, g.1, l.1, k.1, st.1, []⟩, n.1, n.2) else .error 161 else .error 161
theorem rTake_lt (bs : List Nat) (a k : Nat) (hk : k ≤ 64) : (rTake bs a k).1 < 2 ^ k := by
  unfold rTake
  split
  · exact Nat.two_pow_pos _
  · split
    · exact Nat.two_pow_pos _
    · exact toldN_lt bs a k
theorem takR_ok {bs : List Nat} {a : Nat} {k : Int} {n a' : Nat} (h : takR bs a k = .ok (n, a')) : rTake bs a k = (n, 0, a') := by
  unfold takR at h
  split at h
  · cases h
  · split at h
    · cases h
    · rename_i h1 h2
      cases h
      have h2 : (rTake bs a k).2.1 = 0 := Classical.not_not.1 h2
      exact Prod.ext rfl (Prod.ext h2 rfl)
section
variable {P : Prog} {H : Heap} {R : List As} {Q : Out → Heap → Prop}
theorem aligned (hp : HasSeg P) {bs : List Nat} {a : Nat} (h0 : alnR bs a = .ok (rAlign bs a).2 → Q (.ret (.tup [])) H) (h1 : ∀ e, alnR bs a = .error e → Q (.pan (flt e)) H) : Call P 158 [.int .i64 (rAlign bs a).1] H Q := by
  unfold alnR at h0 h1
  refine need_ct hp (fun k => ?_) (fun k => ?_) (fun k k2 => ?_)
  · exact h0 (by rw [if_neg (by omega), if_neg (by omega)])
  · exact h1 163 (if_pos k)
  · exact h1 161 (by rw [if_neg k, if_pos k2])
set_option maxHeartbeats 1000000 in
theorem head_ct (hp : HasSeg P) (hb : HasBits P) {r : Nat} {bs : List Nat} (hs : Hs H (RdA r bs 0 :: R))
    (h1 : ∀ s len a v1 v2 H', headR bs = .ok (s, len, a) → s.data = [] → Hs H' (RdA r bs a :: Lst v1 1 s.refs.length (i64s s.refs) :: Lst v2 1 s.keep.length (bools s.keep) :: R) → Q (.ret (.tup [.agg (s.cells v1 v2 (.sl none 0 0 0)), .int .i64 (len : Nat)])) H')
    (h2 : ∀ e H', headR bs = .error e → Hs H' R → Q (.pan (flt e)) H') : Call P 161 [.agg [.ptr (some (r, 0))]] H Q := by
  refine call_of hp.h_segment_reader_head rfl ?_
  have g1 := hs.alloc (l := [.ptr (some (r, 0))])
  have g1 := g1.alloc (l := [.int .i64 0, .int .i64 0, .int .i64 0, .sl none 0 0 0, .sl none 0 0 0, .bool false, .sl none 0 0 0])
  rw [next_new] at g1
  have c1 := rd_m (Hs.p1 g1).cel 1
  simp -implicitDefEqProofs -dsimp (disch := omega) only [go_sem, Nat.reduceEqDiff, ↓reduceIte, Nat.reduceAdd, Nat.reduceMul, Nat.reduceSub, Nat.reduceLT, Nat.reduceLeDiff, Int.reduceLT, Int.reduceLE, Int.reduceEq, Int.reduceNeg, Int.reduceAdd, Int.reduceMul, Int.reduceSub, Int.reduceToNat, reduceCtorEq, dec_t, dec_f, c1]
  have ne : ¬ H.next = H.next + 1 := by omega
  generalize (H.new _).new _ = H1 at *
  generalize H.next + 1 = b2 at *
  generalize H.next = b1 at *
  have g1 := Hs.p2 g1
  have e0 : headR bs = headR bs := rfl
  conv at e0 => rhs; unfold headR
  refine number_ct (bound := 32768) hp hb g1 (by omega) (fun num a1 H2 e1 l1 g2 => ?_) (fun e H2 k g2 => ?_)
  rotate_left
  · rw [k, exb_er] at e0
    simp -implicitDefEqProofs -dsimp (disch := omega) only [go_sem, Nat.reduceEqDiff, ↓reduceIte, Nat.reduceAdd, Nat.reduceMul, Nat.reduceSub, Nat.reduceLT, Nat.reduceLeDiff, Int.reduceLT, Int.reduceLE, Int.reduceEq, Int.reduceNeg, Int.reduceAdd, Int.reduceMul, Int.reduceSub, Int.reduceToNat, reduceCtorEq, dec_t, dec_f, ]
    exact h2 e _ e0 g2.tail.tail
  rw [e1, exb_ok] at e0
  have c1 := rd_s (Hs.p2 g2).cel
  have w2 := wr_s (Hs.p1 g2).cel 0
  simp -implicitDefEqProofs -dsimp (disch := omega) only [go_sem, Nat.reduceEqDiff, ↓reduceIte, Nat.reduceAdd, Nat.reduceMul, Nat.reduceSub, Nat.reduceLT, Nat.reduceLeDiff, Int.reduceLT, Int.reduceLE, Int.reduceEq, Int.reduceNeg, Int.reduceAdd, Int.reduceMul, Int.reduceSub, Int.reduceToNat, reduceCtorEq, dec_t, dec_f, c1, w2, ne]
  have g3 := Hs.p1 ((Hs.p1 g2).put (l' := [.int .i64 (num : Nat), .int .i64 0, .int .i64 0, .sl none 0 0 0, .sl none 0 0 0, .bool false, .sl none 0 0 0]))
  generalize H2.put b2 _ = H3 at *
  refine rTakeA hb g3 fun H4 g4 => ?_
  have lk := rTake_lt bs a1 8 (by omega)
  simp -implicitDefEqProofs -dsimp (disch := omega) only [go_sem, Nat.reduceEqDiff, ↓reduceIte, Nat.reduceAdd, Nat.reduceMul, Nat.reduceSub, Nat.reduceLT, Nat.reduceLeDiff, Int.reduceLT, Int.reduceLE, Int.reduceEq, Int.reduceNeg, Int.reduceAdd, Int.reduceMul, Int.reduceSub, Int.reduceToNat, reduceCtorEq, dec_t, dec_f, ]
  refine taken hp (fun kind a2 k k2 => ?_) fun e k => ?_
  rotate_left
  · rw [k, exb_er] at e0
    simp -implicitDefEqProofs -dsimp (disch := omega) only [go_sem, Nat.reduceEqDiff, ↓reduceIte, Nat.reduceAdd, Nat.reduceMul, Nat.reduceSub, Nat.reduceLT, Nat.reduceLeDiff, Int.reduceLT, Int.reduceLE, Int.reduceEq, Int.reduceNeg, Int.reduceAdd, Int.reduceMul, Int.reduceSub, Int.reduceToNat, reduceCtorEq, dec_t, dec_f, ]
    exact h2 e _ e0 g4.tail.tail.tail
  dsimp only at e0
  rw [k, exb_ok] at e0
  rw [show ((8 : Nat) : Int) = 8 from rfl, k2] at lk
  rw [k2] at g4 ⊢
  dsimp only at e0 lk g4 ⊢
  have c2 := rd_s (Hs.p1 g4).cel
  have w2 := wr_s (Hs.p1 g4).cel 1
  simp -implicitDefEqProofs -dsimp (disch := omega) only [go_sem, Nat.reduceEqDiff, ↓reduceIte, Nat.reduceAdd, Nat.reduceMul, Nat.reduceSub, Nat.reduceLT, Nat.reduceLeDiff, Int.reduceLT, Int.reduceLE, Int.reduceEq, Int.reduceNeg, Int.reduceAdd, Int.reduceMul, Int.reduceSub, Int.reduceToNat, reduceCtorEq, dec_t, dec_f, c2, w2, w64]
  have g5 := Hs.p1 ((Hs.p1 g4).put (l' := [.int .i64 (num : Nat), .int .i64 (kind : Nat), .int .i64 0, .sl none 0 0 0, .sl none 0 0 0, .bool false, .sl none 0 0 0]))
  generalize H4.put b2 _ = H5 at *
  refine allowedS hp fun H6 s6 => ?_
  have g6 := g5.keep s6
  by_cases ik : kindOk kind
  rotate_left
  · rw [if_neg ik] at e0
    unfold ruleC
    rw [dec_f ik, if_neg ik]
    have g7 := g6.alloc (l := [.int .i64 0, .bool false, .bool false, .bool false])
    simp -implicitDefEqProofs -dsimp (disch := omega) only [go_sem, Nat.reduceEqDiff, ↓reduceIte, Nat.reduceAdd, Nat.reduceMul, Nat.reduceSub, Nat.reduceLT, Nat.reduceLeDiff, Int.reduceLT, Int.reduceLE, Int.reduceEq, Int.reduceNeg, Int.reduceAdd, Int.reduceMul, Int.reduceSub, Int.reduceToNat, reduceCtorEq, dec_t, dec_f, ]
    refine wrong_ct hp (fun k => by cases k) fun _ => ?_
    simp -implicitDefEqProofs -dsimp (disch := omega) only [go_sem, Nat.reduceEqDiff, ↓reduceIte, Nat.reduceAdd, Nat.reduceMul, Nat.reduceSub, Nat.reduceLT, Nat.reduceLeDiff, Int.reduceLT, Int.reduceLE, Int.reduceEq, Int.reduceNeg, Int.reduceAdd, Int.reduceMul, Int.reduceSub, Int.reduceToNat, reduceCtorEq, dec_t, dec_f, ]
    exact h2 161 _ e0 g7.tail.tail.tail.tail
  rw [if_pos ik] at e0
  unfold ruleC
  rw [dec_t ik, if_pos ik]
  have g7 := g6.alloc (l := [.int .i64 (pageK (kind : Nat)), .bool (decide (refsK (kind : Nat))), .bool (decide (((kind : Nat) : Int) = 2)), .bool (decide (dataK (kind : Nat)))])
  have c1 := rd_m (Hs.p3 g7).cel 1
  simp -implicitDefEqProofs -dsimp (disch := omega) only [go_sem, Nat.reduceEqDiff, ↓reduceIte, Nat.reduceAdd, Nat.reduceMul, Nat.reduceSub, Nat.reduceLT, Nat.reduceLeDiff, Int.reduceLT, Int.reduceLE, Int.reduceEq, Int.reduceNeg, Int.reduceAdd, Int.reduceMul, Int.reduceSub, Int.reduceToNat, reduceCtorEq, dec_t, dec_f, c1]
  generalize H6.new _ = H7 at *
  generalize H6.next = b6 at *
  refine wrong_ct hp (fun _ => ?_) fun k => by cases k
  simp -implicitDefEqProofs -dsimp (disch := omega) only [go_sem, Nat.reduceEqDiff, ↓reduceIte, Nat.reduceAdd, Nat.reduceMul, Nat.reduceSub, Nat.reduceLT, Nat.reduceLeDiff, Int.reduceLT, Int.reduceLE, Int.reduceEq, Int.reduceNeg, Int.reduceAdd, Int.reduceMul, Int.reduceSub, Int.reduceToNat, reduceCtorEq, dec_t, dec_f, c1]
  refine number_ct (bound := 65) hp hb (Hs.p1 g7) (by omega) (fun page a3 H8 e3 l3 g8 => ?_) (fun e H8 k g8 => ?_)
  rotate_left
  · rw [k, exb_er] at e0
    simp -implicitDefEqProofs -dsimp (disch := omega) only [go_sem, Nat.reduceEqDiff, ↓reduceIte, Nat.reduceAdd, Nat.reduceMul, Nat.reduceSub, Nat.reduceLT, Nat.reduceLeDiff, Int.reduceLT, Int.reduceLE, Int.reduceEq, Int.reduceNeg, Int.reduceAdd, Int.reduceMul, Int.reduceSub, Int.reduceToNat, reduceCtorEq, dec_t, dec_f, ]
    exact h2 e _ e0 g8.tail.tail.tail
  rw [e3, exb_ok] at e0
  dsimp only at e0
  have w2 := wr_s (Hs.p2 g8).cel 2
  have g9 := (Hs.p2 g8).put (l' := [.int .i64 (num : Nat), .int .i64 (kind : Nat), .int .i64 (page : Nat), .sl none 0 0 0, .sl none 0 0 0, .bool false, .sl none 0 0 0])
  have c2 := rd_s g9.cel
  have c6 := rd_m (Hs.p2 g9).cel 4
  simp -implicitDefEqProofs -dsimp (disch := omega) only [go_sem, Nat.reduceEqDiff, ↓reduceIte, Nat.reduceAdd, Nat.reduceMul, Nat.reduceSub, Nat.reduceLT, Nat.reduceLeDiff, Int.reduceLT, Int.reduceLE, Int.reduceEq, Int.reduceNeg, Int.reduceAdd, Int.reduceMul, Int.reduceSub, Int.reduceToNat, reduceCtorEq, dec_t, dec_f, c2, c6, w2]
  generalize H8.put b2 _ = H9 at *
  refine pagedS hp fun H10 s10 => ?_
  have g10 := g9.keep s10
  have c1 := rd_m (Hs.p3 g10).cel 1
  have c2 := rd_s g10.cel
  simp -implicitDefEqProofs -dsimp (disch := omega) only [go_sem, Nat.reduceEqDiff, ↓reduceIte, Nat.reduceAdd, Nat.reduceMul, Nat.reduceSub, Nat.reduceLT, Nat.reduceLeDiff, Int.reduceLT, Int.reduceLE, Int.reduceEq, Int.reduceNeg, Int.reduceAdd, Int.reduceMul, Int.reduceSub, Int.reduceToNat, reduceCtorEq, dec_t, dec_f, ]
  by_cases ip : pagedP (pageK (kind : Nat)) (page : Nat)
  rotate_left
  · rw [if_neg ip] at e0
    rw [dec_f ip]
    refine wrong_ct hp (fun k => by cases k) fun _ => ?_
    simp -implicitDefEqProofs -dsimp (disch := omega) only [go_sem, Nat.reduceEqDiff, ↓reduceIte, Nat.reduceAdd, Nat.reduceMul, Nat.reduceSub, Nat.reduceLT, Nat.reduceLeDiff, Int.reduceLT, Int.reduceLE, Int.reduceEq, Int.reduceNeg, Int.reduceAdd, Int.reduceMul, Int.reduceSub, Int.reduceToNat, reduceCtorEq, dec_t, dec_f, ]
    exact h2 161 _ e0 g10.tail.tail.tail.tail
  rw [if_pos ip] at e0
  rw [dec_t ip]
  refine wrong_ct hp (fun _ => ?_) fun k => by cases k
  simp -implicitDefEqProofs -dsimp (disch := omega) only [go_sem, Nat.reduceEqDiff, ↓reduceIte, Nat.reduceAdd, Nat.reduceMul, Nat.reduceSub, Nat.reduceLT, Nat.reduceLeDiff, Int.reduceLT, Int.reduceLE, Int.reduceEq, Int.reduceNeg, Int.reduceAdd, Int.reduceMul, Int.reduceSub, Int.reduceToNat, reduceCtorEq, dec_t, dec_f, c1, c2, w64]
  have en : (num : Int) + 1 = ((num + 1 : Nat) : Int) := by omega
  rw [en]
  refine number_ct (bound := num + 1) hp hb (Hs.p1 g10) (by omega) (fun cnt a4 H11 e4 l4 g11 => ?_) (fun e H11 k g11 => ?_)
  rotate_left
  · rw [k, exb_er] at e0
    simp -implicitDefEqProofs -dsimp (disch := omega) only [go_sem, Nat.reduceEqDiff, ↓reduceIte, Nat.reduceAdd, Nat.reduceMul, Nat.reduceSub, Nat.reduceLT, Nat.reduceLeDiff, Int.reduceLT, Int.reduceLE, Int.reduceEq, Int.reduceNeg, Int.reduceAdd, Int.reduceMul, Int.reduceSub, Int.reduceToNat, reduceCtorEq, dec_t, dec_f, ]
    exact h2 e _ e0 g11.tail.tail.tail
  rw [e4, exb_ok] at e0
  dsimp only at e0
  have c6 := rd_s (Hs.p2 g11).cel
  by_cases f1 : 0 < cnt ∧ ¬ refsK (kind : Nat)
  · rw [if_pos f1] at e0
    obtain ⟨f1, f2⟩ := f1
    rw [dec_f f2] at c6
    simp -implicitDefEqProofs -dsimp (disch := omega) only [go_sem, Nat.reduceEqDiff, ↓reduceIte, Nat.reduceAdd, Nat.reduceMul, Nat.reduceSub, Nat.reduceLT, Nat.reduceLeDiff, Int.reduceLT, Int.reduceLE, Int.reduceEq, Int.reduceNeg, Int.reduceAdd, Int.reduceMul, Int.reduceSub, Int.reduceToNat, reduceCtorEq, dec_t, dec_f, c6]
    refine wrong_ct hp (fun k => by cases k) fun _ => ?_
    simp -implicitDefEqProofs -dsimp (disch := omega) only [go_sem, Nat.reduceEqDiff, ↓reduceIte, Nat.reduceAdd, Nat.reduceMul, Nat.reduceSub, Nat.reduceLT, Nat.reduceLeDiff, Int.reduceLT, Int.reduceLE, Int.reduceEq, Int.reduceNeg, Int.reduceAdd, Int.reduceMul, Int.reduceSub, Int.reduceToNat, reduceCtorEq, dec_t, dec_f, ]
    exact h2 161 _ e0 g11.tail.tail.tail.tail
  rw [if_neg f1] at e0
  have g12 := g11.lst (v := .sl none 0 0 0) (e := 1) (n := 0) (L := []) (Same.refl _ _) (own_nil _ _) fun _ h => h.elim
  have g13 : Hs H11 (hdT r bs b1 b2 (num : Nat) (kind : Nat) (page : Nat) a4 [] (.sl none 0 0 0) (Cel b6 [.int .i64 (pageK (kind : Nat)), .bool (decide (refsK (kind : Nat))), .bool (decide (((kind : Nat) : Int) = 2)), .bool (decide (dataK (kind : Nat)))] :: R)) :=
    Hs.perm g12 (by
      unfold hdT hdC
      refine List.Perm.trans (List.Perm.swap ..) (List.Perm.cons _ (List.Perm.trans (List.Perm.swap ..) (List.Perm.cons _ (List.Perm.cons _ (List.Perm.swap ..)))))
      )
  have g1 : 0 < cnt → decide (refsK (kind : Nat)) = true := fun k => dec_t (Classical.not_not.1 fun k2 => f1 ⟨k, k2⟩)
  by_cases z : 0 < cnt
  all_goals
    first
    | rw [g1 z] at c6
    | skip
    simp -implicitDefEqProofs -dsimp (disch := omega) only [go_sem, Nat.reduceEqDiff, ↓reduceIte, Nat.reduceAdd, Nat.reduceMul, Nat.reduceSub, Nat.reduceLT, Nat.reduceLeDiff, Int.reduceLT, Int.reduceLE, Int.reduceEq, Int.reduceNeg, Int.reduceAdd, Int.reduceMul, Int.reduceSub, Int.reduceToNat, reduceCtorEq, dec_t, dec_f, c6]
    refine wrong_ct hp (fun _ => ?_) fun k => by cases k
    simp -implicitDefEqProofs -dsimp (disch := omega) only [go_sem, Nat.reduceEqDiff, ↓reduceIte, Nat.reduceAdd, Nat.reduceMul, Nat.reduceSub, Nat.reduceLT, Nat.reduceLeDiff, Int.reduceLT, Int.reduceLE, Int.reduceEq, Int.reduceNeg, Int.reduceAdd, Int.reduceMul, Int.reduceSub, Int.reduceToNat, reduceCtorEq, dec_t, dec_f, ]
    refine head_l1 hp hb (b6 := b6) (by omega) (by omega) g13 (fun L a5 v H14 ex e5 hl5 g14 => ?_) (fun e H14 tm k g14 => ?_)
    rotate_left
    · rw [k, exb_er] at e0
      simp -implicitDefEqProofs -dsimp (disch := omega) only [go_sem, Nat.reduceEqDiff, ↓reduceIte, Nat.reduceAdd, Nat.reduceMul, Nat.reduceSub, Nat.reduceLT, Nat.reduceLeDiff, Int.reduceLT, Int.reduceLE, Int.reduceEq, Int.reduceNeg, Int.reduceAdd, Int.reduceMul, Int.reduceSub, Int.reduceToNat, reduceCtorEq, dec_t, dec_f, ]
      exact h2 e _ e0 g14.tail
    rw [e5, exb_ok] at e0
    dsimp only at e0
    obtain ⟨va, vc, ve, rfl⟩ := (Hs.p2 g14).own.arr.shape
    have g15 := g14.lst (v := .sl none 0 0 0) (e := 1) (n := 0) (L := []) (Same.refl _ _) (own_nil _ _) fun _ h => h.elim
    have g16 : Hs H14 (hkT r bs b1 b2 (num : Nat) (kind : Nat) (page : Nat) (.sl va L.length vc ve) a5 [] (.sl none 0 0 0) (Lst (.sl va L.length vc ve) 1 L.length (i64s L) :: Cel b6 [.int .i64 (pageK (kind : Nat)), .bool (decide (refsK (kind : Nat))), .bool (decide (((kind : Nat) : Int) = 2)), .bool (decide (dataK (kind : Nat)))] :: R)) :=
      Hs.perm g15 (List.Perm.trans (List.Perm.swap ..) (List.Perm.cons _ (List.Perm.trans (List.Perm.swap ..) (List.Perm.cons _ (List.Perm.cons _ (List.Perm.swap ..))))))
    simp -implicitDefEqProofs -dsimp (disch := omega) only [go_sem, Nat.reduceEqDiff, ↓reduceIte, Nat.reduceAdd, Nat.reduceMul, Nat.reduceSub, Nat.reduceLT, Nat.reduceLeDiff, Int.reduceLT, Int.reduceLE, Int.reduceEq, Int.reduceNeg, Int.reduceAdd, Int.reduceMul, Int.reduceSub, Int.reduceToNat, reduceCtorEq, dec_t, dec_f, ]
    refine head_l0 hp hb (b6 := b6) (by omega) rfl g16 (fun K a6 w H17 ex2 e6 hl6 g17 => ?_) (fun e H17 tm k g17 => ?_)
    rotate_left
    · rw [k, exb_er] at e0
      simp -implicitDefEqProofs -dsimp (disch := omega) only [go_sem, Nat.reduceEqDiff, ↓reduceIte, Nat.reduceAdd, Nat.reduceMul, Nat.reduceSub, Nat.reduceLT, Nat.reduceLeDiff, Int.reduceLT, Int.reduceLE, Int.reduceEq, Int.reduceNeg, Int.reduceAdd, Int.reduceMul, Int.reduceSub, Int.reduceToNat, reduceCtorEq, dec_t, dec_f, ]
      exact h2 e _ e0 g17.tail.tail
    rw [e6, exb_ok] at e0
    dsimp only at e0
    have c1 := rd_m (Hs.p3 g17).cel 1
    simp -implicitDefEqProofs -dsimp (disch := omega) only [go_sem, Nat.reduceEqDiff, ↓reduceIte, Nat.reduceAdd, Nat.reduceMul, Nat.reduceSub, Nat.reduceLT, Nat.reduceLeDiff, Int.reduceLT, Int.reduceLE, Int.reduceEq, Int.reduceNeg, Int.reduceAdd, Int.reduceMul, Int.reduceSub, Int.reduceToNat, reduceCtorEq, dec_t, dec_f, c1]
    refine flag_ct hp hb g17 (fun st a7 H18 e7 g18 => ?_) (fun e H18 k g18 => ?_)
    rotate_left
    · rw [k, exb_er] at e0
      simp -implicitDefEqProofs -dsimp (disch := omega) only [go_sem, Nat.reduceEqDiff, ↓reduceIte, Nat.reduceAdd, Nat.reduceMul, Nat.reduceSub, Nat.reduceLT, Nat.reduceLeDiff, Int.reduceLT, Int.reduceLE, Int.reduceEq, Int.reduceNeg, Int.reduceAdd, Int.reduceMul, Int.reduceSub, Int.reduceToNat, reduceCtorEq, dec_t, dec_f, ]
      exact h2 e _ e0 g18.tail.tail.tail.tail.tail
    rw [e7, exb_ok] at e0
    dsimp only at e0
    obtain ⟨wa, wc, we, rfl⟩ := (Hs.p2 g18).own.arr.shape
    have w2 := wr_s (Hs.p1 g18).cel 5
    have g19 := (Hs.p1 g18).put (l' := [.int .i64 (num : Nat), .int .i64 (kind : Nat), .int .i64 (page : Nat), .sl va L.length vc ve, .sl wa K.length wc we, .bool st, .sl none 0 0 0])
    have c2 := rd_s g19.cel
    have c6 := rd_s (Hs.p5 g19).cel
    have c1 := rd_s (Hs.p3 g19).cel
    unfold hkC at w2
    by_cases f2 : st = true ∧ ¬ ((kind : Nat) : Int) = 2
    · rw [if_pos f2] at e0
      obtain ⟨rfl, f2⟩ := f2
      rw [dec_f f2] at c6
      simp -implicitDefEqProofs -dsimp (disch := omega) only [go_sem, Nat.reduceEqDiff, ↓reduceIte, Nat.reduceAdd, Nat.reduceMul, Nat.reduceSub, Nat.reduceLT, Nat.reduceLeDiff, Int.reduceLT, Int.reduceLE, Int.reduceEq, Int.reduceNeg, Int.reduceAdd, Int.reduceMul, Int.reduceSub, Int.reduceToNat, reduceCtorEq, dec_t, dec_f, w2, c2, c6]
      refine wrong_ct hp (fun k => by cases k) fun _ => ?_
      simp -implicitDefEqProofs -dsimp (disch := omega) only [go_sem, Nat.reduceEqDiff, ↓reduceIte, Nat.reduceAdd, Nat.reduceMul, Nat.reduceSub, Nat.reduceLT, Nat.reduceLeDiff, Int.reduceLT, Int.reduceLE, Int.reduceEq, Int.reduceNeg, Int.reduceAdd, Int.reduceMul, Int.reduceSub, Int.reduceToNat, reduceCtorEq, dec_t, dec_f, ]
      exact h2 161 _ e0 g19.tail.tail.tail.tail.tail.tail
    rw [if_neg f2] at e0
    have g2 : st = true → decide (((kind : Nat) : Int) = 2) = true := fun k => dec_t (Classical.not_not.1 fun k2 => f2 ⟨k, k2⟩)
    cases st
    all_goals
      first
      | rw [g2 rfl] at c6
      | skip
      simp -implicitDefEqProofs -dsimp (disch := omega) only [go_sem, Nat.reduceEqDiff, ↓reduceIte, Nat.reduceAdd, Nat.reduceMul, Nat.reduceSub, Nat.reduceLT, Nat.reduceLeDiff, Int.reduceLT, Int.reduceLE, Int.reduceEq, Int.reduceNeg, Int.reduceAdd, Int.reduceMul, Int.reduceSub, Int.reduceToNat, reduceCtorEq, dec_t, dec_f, w2, c2, c6]
      refine wrong_ct hp (fun _ => ?_) fun k => by cases k
      simp -implicitDefEqProofs -dsimp (disch := omega) only [go_sem, Nat.reduceEqDiff, ↓reduceIte, Nat.reduceAdd, Nat.reduceMul, Nat.reduceSub, Nat.reduceLT, Nat.reduceLeDiff, Int.reduceLT, Int.reduceLE, Int.reduceEq, Int.reduceNeg, Int.reduceAdd, Int.reduceMul, Int.reduceSub, Int.reduceToNat, reduceCtorEq, dec_t, dec_f, c1]
      refine rAlignA hb (Hs.p1 g19) fun H20 g20 => ?_
      simp -implicitDefEqProofs -dsimp (disch := omega) only [go_sem, Nat.reduceEqDiff, ↓reduceIte, Nat.reduceAdd, Nat.reduceMul, Nat.reduceSub, Nat.reduceLT, Nat.reduceLeDiff, Int.reduceLT, Int.reduceLE, Int.reduceEq, Int.reduceNeg, Int.reduceAdd, Int.reduceMul, Int.reduceSub, Int.reduceToNat, reduceCtorEq, dec_t, dec_f, ]
      refine aligned hp (fun k => ?_) (fun e k => ?_)
      rotate_left
      · rw [k, exb_er] at e0
        simp -implicitDefEqProofs -dsimp (disch := omega) only [go_sem, Nat.reduceEqDiff, ↓reduceIte, Nat.reduceAdd, Nat.reduceMul, Nat.reduceSub, Nat.reduceLT, Nat.reduceLeDiff, Int.reduceLT, Int.reduceLE, Int.reduceEq, Int.reduceNeg, Int.reduceAdd, Int.reduceMul, Int.reduceSub, Int.reduceToNat, reduceCtorEq, dec_t, dec_f, ]
        exact h2 e _ e0 g20.tail.tail.tail.tail.tail.tail
      rw [k, exb_ok] at e0
      clear c1 c2 c6
      have c1 := rd_m (Hs.p3 g20).cel 1
      simp -implicitDefEqProofs -dsimp (disch := omega) only [go_sem, Nat.reduceEqDiff, ↓reduceIte, Nat.reduceAdd, Nat.reduceMul, Nat.reduceSub, Nat.reduceLT, Nat.reduceLeDiff, Int.reduceLT, Int.reduceLE, Int.reduceEq, Int.reduceNeg, Int.reduceAdd, Int.reduceMul, Int.reduceSub, Int.reduceToNat, reduceCtorEq, dec_t, dec_f, c1]
      refine number_ct (bound := 67108865) hp hb g20 (by omega) (fun len a8 H21 e8 l8 g21 => ?_) (fun e H21 k g21 => ?_)
      rotate_left
      · rw [k, exb_er] at e0
        simp -implicitDefEqProofs -dsimp (disch := omega) only [go_sem, Nat.reduceEqDiff, ↓reduceIte, Nat.reduceAdd, Nat.reduceMul, Nat.reduceSub, Nat.reduceLT, Nat.reduceLeDiff, Int.reduceLT, Int.reduceLE, Int.reduceEq, Int.reduceNeg, Int.reduceAdd, Int.reduceMul, Int.reduceSub, Int.reduceToNat, reduceCtorEq, dec_t, dec_f, ]
        exact h2 e _ e0 g21.tail.tail.tail.tail.tail
      rw [e8, exb_ok] at e0
      dsimp only at e0
      have c6 := rd_s (Hs.p5 g21).cel
      have r2 := rd_m (Hs.p1 g21).cel 7
      have w2 := wr_s (Hs.p1 g21).cel 0
      by_cases f3 : 0 < len ∧ ¬ dataK (kind : Nat)
      · rw [if_pos f3] at e0
        obtain ⟨f3, f4⟩ := f3
        rw [dec_f f4] at c6
        simp -implicitDefEqProofs -dsimp (disch := omega) only [go_sem, Nat.reduceEqDiff, ↓reduceIte, Nat.reduceAdd, Nat.reduceMul, Nat.reduceSub, Nat.reduceLT, Nat.reduceLeDiff, Int.reduceLT, Int.reduceLE, Int.reduceEq, Int.reduceNeg, Int.reduceAdd, Int.reduceMul, Int.reduceSub, Int.reduceToNat, reduceCtorEq, dec_t, dec_f, c6]
        refine wrong_ct hp (fun k => by cases k) fun _ => ?_
        simp -implicitDefEqProofs -dsimp (disch := omega) only [go_sem, Nat.reduceEqDiff, ↓reduceIte, Nat.reduceAdd, Nat.reduceMul, Nat.reduceSub, Nat.reduceLT, Nat.reduceLeDiff, Int.reduceLT, Int.reduceLE, Int.reduceEq, Int.reduceNeg, Int.reduceAdd, Int.reduceMul, Int.reduceSub, Int.reduceToNat, reduceCtorEq, dec_t, dec_f, ]
        exact h2 161 _ e0 g21.tail.tail.tail.tail.tail.tail
      rw [if_neg f3] at e0
      have g3 : 0 < len → decide (dataK (kind : Nat)) = true := fun k => dec_t (Classical.not_not.1 fun k2 => f3 ⟨k, k2⟩)
      have fin := fun H' => h1 _ len a8 (.sl va L.length vc ve) (.sl wa K.length wc we) H' e0 rfl
      have g22 := fun l' => (Hs.p1 g21).put (l' := l')
      have r3 := fun l' => rd_m (g22 l').cel 7
      have g23 := fun l' => Hs.p1 (Hs.p3 (Hs.p3 (Hs.p3 (g22 l').tail)).tail).tail
      by_cases z3 : 0 < len
      all_goals
        first
        | rw [g3 z3] at c6
        | skip
        simp -implicitDefEqProofs -dsimp (disch := omega) only [go_sem, Nat.reduceEqDiff, ↓reduceIte, Nat.reduceAdd, Nat.reduceMul, Nat.reduceSub, Nat.reduceLT, Nat.reduceLeDiff, Int.reduceLT, Int.reduceLE, Int.reduceEq, Int.reduceNeg, Int.reduceAdd, Int.reduceMul, Int.reduceSub, Int.reduceToNat, reduceCtorEq, dec_t, dec_f, c6]
        refine wrong_ct hp (fun _ => ?_) fun k => by cases k
        simp -implicitDefEqProofs -dsimp (disch := omega) only [go_sem, Nat.reduceEqDiff, ↓reduceIte, Nat.reduceAdd, Nat.reduceMul, Nat.reduceSub, Nat.reduceLT, Nat.reduceLeDiff, Int.reduceLT, Int.reduceLE, Int.reduceEq, Int.reduceNeg, Int.reduceAdd, Int.reduceMul, Int.reduceSub, Int.reduceToNat, reduceCtorEq, dec_t, dec_f, r2, w2, r3]
        exact fin _ (g23 _)
end
end Go.Ab
