/- Segments: the header at a place is read; a panic is told as an error. Conditions: none. -/
import Derived.Test.YtnpdnkmnnmmagaaSg
set_option linter.all false
namespace Go.Ab
def decR (f : List Nat) (p : Int) : Except Int (Sg × Nat × Nat) :=
  if p < 0 ∨ (f.length : Int) < p then .error 163 else
    exb (headR ((f.drop p.toNat).take 131136)) fun q => .ok (q.1, q.2.1, p.toNat + ((f.drop p.toNat).take 131136).length - (8 * ((f.drop p.toNat).take 131136).length - q.2.2) / 8)
def dec1C : Cd := match segment_Decode_1.body with | .recov _ c => c | _ => .skip
theorem rec1 {P : Prog} (hp : HasSeg P) : recOf P 162 = some (segment_Decode_1, 7, dec1C) := by unfold recOf; rw [hp.h_segment_Decode_1]; rfl
def zeroC : List V := [.int .i64 0, .int .i64 0, .int .i64 0, .sl none 0 0 0, .sl none 0 0 0, .bool false, .sl none 0 0 0]
section
variable {P : Prog} {H : Heap} {R : List As} {Q : Out → Heap → Prop}
theorem u8s_sub (f : List Nat) (k m : Nat) : ((u8s f).drop k).take m = u8s ((f.drop k).take m) := by simp [u8s, List.map_take, List.map_drop]
/-- The deferred function is told of a fault. -/
theorem rec_fault {c4 c5 c6 c7 : Nat} {e : Int} {l4 : List V} {x5 x6 x7 : V} (hs : Hs H (Cel c4 l4 :: Cel c5 [x5] :: Cel c6 [x6] :: Cel c7 [x7] :: R)) (hl : l4.length = 7) {K : Heap → Prop}
    (hK : ∀ H', Hs H' (Cel c4 zeroC :: Cel c5 [.int .i64 0] :: Cel c6 [.int .i64 0] :: Cel c7 [.int .i64 e] :: R) → K H') :
    wpC (Call P) dec1C (finR [] K) ⟨(7, flt e) :: frame0 0 [.ptr (some (c4, 0)), .ptr (some (c5, 0)), .ptr (some (c6, 0)), .ptr (some (c7, 0))], []⟩ H := by
  unfold dec1C segment_Decode_1 flt
  have h1 := hs.alloc (l := [.int .i64 e])
  have c1 := rd_s h1.cel
  have ne : ¬ c4 = H.next := by have := hs.celt; omega
  have g1 := Hs.p1 h1
  have w4 : ∀ vs, wrN H [.int .i64 e] c4 0 vs = _ := fun vs => wr_s g1.cel 0 vs
  have g2 := g1.put (l' := zeroC)
  have r2 := rd_s (Hs.p1 g2).cel
  have w5 := wr_s (Hs.p2 g2).cel 0
  have g3 := (Hs.p2 g2).put (l' := [.int .i64 0])
  have r3 := rd_s (Hs.p2 g3).cel
  have w6 := wr_s (Hs.p3 g3).cel 0
  have g4 := (Hs.p3 g3).put (l' := [.int .i64 0])
  have r4 := rd_s (Hs.p3 g4).cel
  have w7 := wr_s (Hs.p4 g4).cel 0
  have g5 := (Hs.p4 g4).put (l' := [.int .i64 e])
  obtain ⟨a, b, c, d, e', f, g, rfl⟩ : ∃ a b c d e f g, l4 = [a, b, c, d, e, f, g] := by
    match l4, hl with
    | [a, b, c, d, e, f, g], _ => exact ⟨a, b, c, d, e, f, g, rfl⟩
  unfold zeroC at *
  simp -implicitDefEqProofs -dsimp (disch := omega) only [go_sem, Nat.reduceEqDiff, ↓reduceIte, Nat.reduceAdd, Nat.reduceMul, Nat.reduceSub, Nat.reduceLT, Nat.reduceLeDiff, Int.reduceLT, Int.reduceLE, Int.reduceEq, Int.reduceNeg, Int.reduceAdd, Int.reduceMul, Int.reduceSub, Int.reduceToNat, reduceCtorEq, dec_t, dec_f, frame0, c1, ne, w4]
  refine aft_intro (t := tag _) (by simp [rechecks, recheck, fresh, Fr.get, Fr.put, look, step, opd, r2]) ?_
  simp -implicitDefEqProofs -dsimp (disch := omega) only [go_sem, Nat.reduceEqDiff, ↓reduceIte, Nat.reduceAdd, Nat.reduceMul, Nat.reduceSub, Nat.reduceLT, Nat.reduceLeDiff, Int.reduceLT, Int.reduceLE, Int.reduceEq, Int.reduceNeg, Int.reduceAdd, Int.reduceMul, Int.reduceSub, Int.reduceToNat, reduceCtorEq, dec_t, dec_f, w5]
  refine aft_intro (t := tag _) (by simp [rechecks, recheck, fresh, Fr.get, Fr.put, look, step, opd, r3]) ?_
  simp -implicitDefEqProofs -dsimp (disch := omega) only [go_sem, Nat.reduceEqDiff, ↓reduceIte, Nat.reduceAdd, Nat.reduceMul, Nat.reduceSub, Nat.reduceLT, Nat.reduceLeDiff, Int.reduceLT, Int.reduceLE, Int.reduceEq, Int.reduceNeg, Int.reduceAdd, Int.reduceMul, Int.reduceSub, Int.reduceToNat, reduceCtorEq, dec_t, dec_f, w6]
  refine aft_intro (t := tag _) (by simp [rechecks, recheck, fresh, Fr.get, Fr.put, look, step, opd, r4]) ?_
  simp -implicitDefEqProofs -dsimp (disch := omega) only [go_sem, Nat.reduceEqDiff, ↓reduceIte, Nat.reduceAdd, Nat.reduceMul, Nat.reduceSub, Nat.reduceLT, Nat.reduceLeDiff, Int.reduceLT, Int.reduceLE, Int.reduceEq, Int.reduceNeg, Int.reduceAdd, Int.reduceMul, Int.reduceSub, Int.reduceToNat, reduceCtorEq, dec_t, dec_f, w7]
  exact hK _ (Hs.perm g5.p4.tail (by
    refine List.Perm.trans ?_ (List.Perm.refl _)
    exact ((List.reverse_perm [Cel c4 [V.int .i64 0, .int .i64 0, .int .i64 0, .sl none 0 0 0, .sl none 0 0 0, .bool false, .sl none 0 0 0], Cel c5 [.int .i64 0], Cel c6 [.int .i64 0], Cel c7 [.int .i64 e]]).append_right R)))
theorem rec_none {a b c d : V} {K : Heap → Prop} (hK : K H) : wpC (Call P) dec1C (finR [] K) ⟨(7, .nilifc) :: frame0 0 [a, b, c, d], []⟩ H := by
  unfold dec1C segment_Decode_1
  simp -implicitDefEqProofs -dsimp (disch := omega) only [go_sem, Nat.reduceEqDiff, ↓reduceIte, Nat.reduceAdd, Nat.reduceMul, Nat.reduceSub, Nat.reduceLT, Nat.reduceLeDiff, Int.reduceLT, Int.reduceLE, Int.reduceEq, Int.reduceNeg, Int.reduceAdd, Int.reduceMul, Int.reduceSub, Int.reduceToNat, reduceCtorEq, dec_t, dec_f, frame0]
  exact hK
set_option maxHeartbeats 1000000 in
theorem decode_ct (hp : HasSeg P) (hb : HasBits P) {y : V} {f : List Nat} {p : Int} (hp64 : r64 p) (hy : Arr H y 1 f.length (u8s f)) (hf : ∀ b ∈ f, b < 256) (hl : f.length ≤ 140737488355328) (hs : Hs H R)
    (h1 : ∀ s len a v1 v2 H', decR f p = .ok (s, len, a) → s.data = [] → Hs H' (Lst v1 1 s.refs.length (i64s s.refs) :: Lst v2 1 s.keep.length (bools s.keep) :: R) → Q (.ret (.tup [.agg (s.cells v1 v2 (.sl none 0 0 0)), .int .i64 (len : Nat), .int .i64 (a : Nat), .int .i64 0])) H')
    (h2 : ∀ e H', decR f p = .error e → Hs H' R → Q (.ret (.tup [.agg zeroC, .int .i64 0, .int .i64 0, .int .i64 e])) H') : Call P 163 [y, .int .i64 p] H Q := by
  refine call_of hp.h_segment_Decode rfl ?_
  have g := (((hs.alloc (l := zeroC)).alloc (l := [.int .i64 0])).alloc (l := [.int .i64 0])).alloc (l := [.int .i64 0])
  simp only [next_new] at g
  have sm : Same (fun _ => False) H ((((H.new (.cells zeroC true)).new (.cells [.int .i64 0] true)).new (.cells [.int .i64 0] true)).new (.cells [.int .i64 0] true)) :=
    (((((Hs.start H).alloc (l := zeroC)).alloc (l := [.int .i64 0])).alloc (l := [.int .i64 0])).alloc (l := [.int .i64 0])).p4.base
  have hy' := hy.same sm fun _ _ h => h
  obtain ⟨ya, yc, ye, hys⟩ := hy.shape
  have g : Hs _ (Cel (H.next + 1 + 1 + 1) [.int .i64 0] :: Cel (H.next + 1 + 1) [.int .i64 0] :: Cel (H.next + 1) [.int .i64 0] :: Cel H.next zeroC :: R) := g
  have n45 : ¬ H.next = H.next + 1 := by omega
  unfold zeroC at g sm hy'
  unfold r64 at hp64
  unfold decR at h1 h2
  rw [hys]
  simp -implicitDefEqProofs -dsimp (disch := omega) only [go_sem, Nat.reduceEqDiff, ↓reduceIte, Nat.reduceAdd, Nat.reduceMul, Nat.reduceSub, Nat.reduceLT, Nat.reduceLeDiff, Int.reduceLT, Int.reduceLE, Int.reduceEq, Int.reduceNeg, Int.reduceAdd, Int.reduceMul, Int.reduceSub, Int.reduceToNat, reduceCtorEq, dec_t, dec_f, ]
  rw [← hys]
  generalize hH1 : (((H.new _).new _).new _).new _ = H1 at g ⊢
  rw [hH1] at hy'
  clear sm hH1
  generalize H.next + 1 + 1 + 1 = b7 at *
  generalize H.next + 1 + 1 = b6 at *
  generalize H.next + 1 = b5 at *
  generalize H.next = b4 at *
  have g := Hs.perm g (List.reverse_perm [Cel b4 [.int .i64 0, .int .i64 0, .int .i64 0, .sl none 0 0 0, .sl none 0 0 0, .bool false, .sl none 0 0 0], Cel b5 [.int .i64 0], Cel b6 [.int .i64 0], Cel b7 [.int .i64 0]] |>.append_right R)
  have g : Hs H1 (Cel b4 [.int .i64 0, .int .i64 0, .int .i64 0, .sl none 0 0 0, .sl none 0 0 0, .bool false, .sl none 0 0 0] :: Cel b5 [.int .i64 0] :: Cel b6 [.int .i64 0] :: Cel b7 [.int .i64 0] :: R) := g
  rcases (show (p < 0 ∨ (0 ≤ p ∧ (f.length : Int) < p)) ∨ (0 ≤ p ∧ p ≤ f.length) by omega) with q | ⟨q, q2⟩
  · rw [if_pos (by omega)] at h2
    rw [hys]
    have w4 := wr_s g.cel 0
    have g2 := g.put (l' := zeroC)
    have w5 := wr_s (Hs.p1 g2).cel 0
    have g3 := (Hs.p1 g2).put (l' := [.int .i64 0])
    have w6 := wr_s (Hs.p2 g3).cel 0
    have g4 := (Hs.p2 g3).put (l' := [.int .i64 0])
    have w7 := wr_s (Hs.p3 g4).cel 0
    have g5 := (Hs.p3 g4).put (l' := [.int .i64 163])
    have r4 := rd_m (Hs.p3 g5).cel 7
    have r5 := rd_s (Hs.p2 g5).cel
    have r6 := rd_s (Hs.p1 g5).cel
    have r7 := rd_s g5.cel
    unfold zeroC at *
    rcases q with q | ⟨q, q2⟩
    all_goals
      simp -implicitDefEqProofs -dsimp (disch := omega) only [go_sem, Nat.reduceEqDiff, ↓reduceIte, Nat.reduceAdd, Nat.reduceMul, Nat.reduceSub, Nat.reduceLT, Nat.reduceLeDiff, Int.reduceLT, Int.reduceLE, Int.reduceEq, Int.reduceNeg, Int.reduceAdd, Int.reduceMul, Int.reduceSub, Int.reduceToNat, reduceCtorEq, dec_t, dec_f, w4, w5, w6, w7]
      refine fin_rR (rec1 hp) rfl (rec_none ?_)
      simp -implicitDefEqProofs -dsimp (disch := omega) only [go_sem, Nat.reduceEqDiff, ↓reduceIte, Nat.reduceAdd, Nat.reduceMul, Nat.reduceSub, Nat.reduceLT, Nat.reduceLeDiff, Int.reduceLT, Int.reduceLE, Int.reduceEq, Int.reduceNeg, Int.reduceAdd, Int.reduceMul, Int.reduceSub, Int.reduceToNat, reduceCtorEq, dec_t, dec_f, r4, r5, r6, r7]
      exact h2 163 _ rfl g5.tail.tail.tail.tail
  · rw [if_neg (by omega)] at h1 h2
    obtain ⟨k, rfl⟩ : ∃ k : Nat, p = (k : Nat) := ⟨p.toNat, by omega⟩
    have hk : k ≤ f.length := by omega
    simp only [Int.toNat_natCast] at h1 h2
    generalize hpart : (f.drop k).take 131136 = part at *
    have hpl : part.length = min 131136 (f.length - k) := by rw [← hpart]; simp
    have hps : ∀ b ∈ part, b < 256 := fun b hb => hf b (List.mem_of_mem_drop (List.mem_of_mem_take (hpart ▸ hb)))
    have hmin : ∃ m : Nat, m ≤ f.length ∧ k ≤ m ∧ m = k + part.length ∧ (if (k : Int) + 131136 < f.length then (k : Int) + 131136 else (f.length : Int)) = (m : Int) := by
      refine ⟨k + part.length, by omega, by omega, rfl, ?_⟩
      split <;> omega
    obtain ⟨m, m1, m2, m3, m4⟩ := hmin
    rw [hys] at hy'
    obtain ⟨z, hz, hza, _⟩ := slc_arr hy' (k := .i64) (k' := .i64) (lo := k) (hi := m) m2 m1
    have hza : Arr H1 z 1 part.length (u8s part) := by
      rw [show m - k = part.length by omega, Nat.mul_one, Nat.mul_one, u8s_sub] at hza
      have e : (f.drop k).take part.length = part := by
        rw [← hpart, List.length_take, List.length_drop]
        by_cases hx : 131136 ≤ f.length - k
        · rw [Nat.min_eq_left hx]
        · rw [Nat.min_eq_right (by omega), List.take_of_length_le (by simp), List.take_of_length_le (by simp; omega)]
      rw [e] at hza
      exact hza
    rw [hys]
    simp -implicitDefEqProofs -dsimp (disch := omega) only [go_sem, Nat.reduceEqDiff, ↓reduceIte, Nat.reduceAdd, Nat.reduceMul, Nat.reduceSub, Nat.reduceLT, Nat.reduceLeDiff, Int.reduceLT, Int.reduceLE, Int.reduceEq, Int.reduceNeg, Int.reduceAdd, Int.reduceMul, Int.reduceSub, Int.reduceToNat, reduceCtorEq, dec_t, dec_f, w64, m4, hz]
    refine newReaderA hb g hza hps (by omega) fun r H2 g2 => ?_
    obtain ⟨za, zc, ze, rfl⟩ := hza.shape
    have g3 := g2.alloc (l := [.ptr (some (r, 0))])
    have r3 := rd_m g3.cel 1
    simp -implicitDefEqProofs -dsimp (disch := omega) only [go_sem, Nat.reduceEqDiff, ↓reduceIte, Nat.reduceAdd, Nat.reduceMul, Nat.reduceSub, Nat.reduceLT, Nat.reduceLeDiff, Int.reduceLT, Int.reduceLE, Int.reduceEq, Int.reduceNeg, Int.reduceAdd, Int.reduceMul, Int.reduceSub, Int.reduceToNat, reduceCtorEq, dec_t, dec_f, r3]
    generalize H2.new _ = H3 at *
    generalize H2.next = b9 at *
    refine head_ct hp hb (Hs.p1 g3) (fun s len a v1 v2 H4 e1 hd g4 => ?_) (fun e H4 k g4 => ?_)
    rotate_left
    · rw [k, exb_er] at h2
      simp -implicitDefEqProofs -dsimp (disch := omega) only [go_sem, Nat.reduceEqDiff, ↓reduceIte, Nat.reduceAdd, Nat.reduceMul, Nat.reduceSub, Nat.reduceLT, Nat.reduceLeDiff, Int.reduceLT, Int.reduceLE, Int.reduceEq, Int.reduceNeg, Int.reduceAdd, Int.reduceMul, Int.reduceSub, Int.reduceToNat, reduceCtorEq, dec_t, dec_f, ]
      refine fin_pR (rec1 hp) rfl (rec_fault g4.tail rfl fun H5 g5 => ?_)
      have q4 := rd_m g5.cel 7
      have q5 := rd_s (Hs.p1 g5).cel
      have q6 := rd_s (Hs.p2 g5).cel
      have q7 := rd_s (Hs.p3 g5).cel
      unfold zeroC at *
      simp -implicitDefEqProofs -dsimp (disch := omega) only [go_sem, Nat.reduceEqDiff, ↓reduceIte, Nat.reduceAdd, Nat.reduceMul, Nat.reduceSub, Nat.reduceLT, Nat.reduceLeDiff, Int.reduceLT, Int.reduceLE, Int.reduceEq, Int.reduceNeg, Int.reduceAdd, Int.reduceMul, Int.reduceSub, Int.reduceToNat, reduceCtorEq, dec_t, dec_f, q4, q5, q6, q7]
      exact h2 e _ rfl g5.tail.tail.tail.tail
    rw [e1, exb_ok] at h1
    dsimp only at h1
    have rm := rRoom g4
    obtain ⟨v1a, v1c, v1e, rfl⟩ := (Hs.p1 g4).own.arr.shape
    obtain ⟨v2a, v2c, v2e, rfl⟩ := (Hs.p2 g4).own.arr.shape
    have h1 := fun v1 v2 H' => h1 s len _ v1 v2 H' rfl hd
    obtain ⟨num, kind, page, refs, keep, stay, data⟩ := s
    unfold Sg.cells at h1 ⊢
    dsimp only at *
    have w4 := wr_s (Hs.p4 g4).cel 0
    have g5 := (Hs.p4 g4).put (l' := [.int .i64 num, .int .i64 kind, .int .i64 page, .sl v1a refs.length v1c v1e, .sl v2a keep.length v2c v2e, .bool stay, .sl none 0 0 0])
    have w5 := wr_s (Hs.p5 g5).cel 0
    have g6 := (Hs.p5 g5).put (l' := [.int .i64 (len : Nat)])
    have r4 := rd_m (Hs.p1 g6).cel 7
    have r5 := rd_s g6.cel
    have r9 := rd_s (Hs.p5 g6).cel
    simp -implicitDefEqProofs -dsimp (disch := omega) only [go_sem, Nat.reduceEqDiff, ↓reduceIte, Nat.reduceAdd, Nat.reduceMul, Nat.reduceSub, Nat.reduceLT, Nat.reduceLeDiff, Int.reduceLT, Int.reduceLE, Int.reduceEq, Int.reduceNeg, Int.reduceAdd, Int.reduceMul, Int.reduceSub, Int.reduceToNat, reduceCtorEq, dec_t, dec_f, w4, w5, r4, r5, r9]
    have g7 := Hs.p2 g6
    refine rLeftA hb g7 ?_
    simp -implicitDefEqProofs -dsimp (disch := omega) only [go_sem, Nat.reduceEqDiff, ↓reduceIte, Nat.reduceAdd, Nat.reduceMul, Nat.reduceSub, Nat.reduceLT, Nat.reduceLeDiff, Int.reduceLT, Int.reduceLE, Int.reduceEq, Int.reduceNeg, Int.reduceAdd, Int.reduceMul, Int.reduceSub, Int.reduceToNat, reduceCtorEq, dec_t, dec_f, ]
    refine aft_intro (t := tag _) (by simp [rechecks, recheck, fresh, Fr.get, Fr.put, look, step, opd, r4, r5, piece]) ?_
    have e8 : (k : Int) + part.length - ((8 * part.length - a : Nat) : Int) / 8 = ((k + part.length - (8 * part.length - a) / 8 : Nat) : Int) := by omega
    have w4 := wr_s (Hs.p2 g7).cel 0
    have g8 := (Hs.p2 g7).put (l' := [.int .i64 num, .int .i64 kind, .int .i64 page, .sl v1a refs.length v1c v1e, .sl v2a keep.length v2c v2e, .bool stay, .sl none 0 0 0])
    have r5 := rd_s (Hs.p2 g8).cel
    have w5 := wr_s (Hs.p2 g8).cel 0
    have g9 := (Hs.p2 g8).put (l' := [.int .i64 (len : Nat)])
    have g9 := (Hs.p2 (Hs.p5 g9).tail).tail
    have w6 := wr_s (Hs.p4 g9).cel 0
    have g10 := (Hs.p4 g9).put (l' := [.int .i64 ((k + part.length - (8 * part.length - a) / 8 : Nat) : Int)])
    have w7 := wr_s (Hs.p5 g10).cel 0
    have g11 := (Hs.p5 g10).put (l' := [.int .i64 0])
    have q4 := rd_m (Hs.p3 g11).cel 7
    have q5 := rd_s (Hs.p2 g11).cel
    have q6 := rd_s (Hs.p1 g11).cel
    have q7 := rd_s g11.cel
    simp -implicitDefEqProofs -dsimp (disch := omega) only [go_sem, Nat.reduceEqDiff, ↓reduceIte, Nat.reduceAdd, Nat.reduceMul, Nat.reduceSub, Nat.reduceLT, Nat.reduceLeDiff, Int.reduceLT, Int.reduceLE, Int.reduceEq, Int.reduceNeg, Int.reduceAdd, Int.reduceMul, Int.reduceSub, Int.reduceToNat, reduceCtorEq, dec_t, dec_f, tdivN, e8, w64, w4]
    refine aft_intro (t := tag _) (by simp [rechecks, recheck, fresh, Fr.get, Fr.put, look, step, opd, r5]) ?_
    simp -implicitDefEqProofs -dsimp (disch := omega) only [go_sem, Nat.reduceEqDiff, ↓reduceIte, Nat.reduceAdd, Nat.reduceMul, Nat.reduceSub, Nat.reduceLT, Nat.reduceLeDiff, Int.reduceLT, Int.reduceLE, Int.reduceEq, Int.reduceNeg, Int.reduceAdd, Int.reduceMul, Int.reduceSub, Int.reduceToNat, reduceCtorEq, dec_t, dec_f, w5, w6, w7]
    refine fin_rR (rec1 hp) rfl (rec_none ?_)
    simp -implicitDefEqProofs -dsimp (disch := omega) only [go_sem, Nat.reduceEqDiff, ↓reduceIte, Nat.reduceAdd, Nat.reduceMul, Nat.reduceSub, Nat.reduceLT, Nat.reduceLeDiff, Int.reduceLT, Int.reduceLE, Int.reduceEq, Int.reduceNeg, Int.reduceAdd, Int.reduceMul, Int.reduceSub, Int.reduceToNat, reduceCtorEq, dec_t, dec_f, q4, q5, q6, q7]
    exact h1 _ _ _ g11.tail.tail.tail.tail
end
end Go.Ab
