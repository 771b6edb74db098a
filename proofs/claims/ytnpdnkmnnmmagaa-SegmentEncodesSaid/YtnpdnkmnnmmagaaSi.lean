/- Segments: a header is written. Conditions: none. -/
import Derived.Test.YtnpdnkmnnmmagaaSd
import Derived.Test.YtnpdnkmnnmmagaaSj
import Derived.Test.YtnpdnkmnnmmagaaBu
set_option linter.all false
namespace Go.Ab
section
variable {P : Prog} {H : Heap} {R : List As} {Q : Out → Heap → Prop}
theorem wVar_fit {l : List Bool} {n : Nat} (hn : n < 18446744073709551616) (h : l.length + 80 ≤ 536870912) : (wVar l 67108864 n).2 = l ++ bytesBits (groups n) := by
  have := groups_le hn
  unfold wVar
  rw [if_neg (by omega)]
theorem sflag_ct (hp : HasSeg P) {b : Bool} (hQ : Q (.ret (.int .u64 (b.toNat : Nat))) H) : Call P 155 [.bool b] H Q := by
  refine call_of hp.h_segment_flag rfl ?_
  cases b
  · simp -implicitDefEqProofs -dsimp (disch := omega) only [go_sem, Nat.reduceEqDiff, ↓reduceIte, Nat.reduceAdd, Nat.reduceMul, Nat.reduceSub, Nat.reduceLT, Nat.reduceLeDiff, Int.reduceLT, Int.reduceLE, Int.reduceEq, Int.reduceNeg, Int.reduceAdd, Int.reduceMul, Int.reduceSub, Int.reduceToNat, reduceCtorEq, dec_t, dec_f, ]
    exact hQ
  · simp -implicitDefEqProofs -dsimp (disch := omega) only [go_sem, Nat.reduceEqDiff, ↓reduceIte, Nat.reduceAdd, Nat.reduceMul, Nat.reduceSub, Nat.reduceLT, Nat.reduceLeDiff, Int.reduceLT, Int.reduceLE, Int.reduceEq, Int.reduceNeg, Int.reduceAdd, Int.reduceMul, Int.reduceSub, Int.reduceToNat, reduceCtorEq, dec_t, dec_f, ]
    exact hQ
def rfB (l : List Int) : List Nat := l.flatMap fun n => groups n.toNat
theorem rfB_snoc (l : List Int) {i : Nat} (hi : i < l.length) : rfB (l.take (i + 1)) = rfB (l.take i) ++ groups l[i].toNat := by
  unfold rfB
  rw [List.take_succ_eq_append_getElem hi, List.flatMap_append]; simp
theorem rfB_len : ∀ {l : List Int}, (∀ n ∈ l, 0 ≤ n ∧ n < 32768) → (rfB l).length ≤ 10 * l.length
  | [], _ => by simp [rfB]
  | n :: l, h => by
    have h1 := groups_le (n := n.toNat) (by have := h n (by simp); omega)
    have h2 := rfB_len (l := l) fun m hm => h m (by simp [hm])
    simp only [rfB, List.flatMap_cons, List.length_append, List.length_cons] at h2 ⊢
    omega
def en1F (b w : Nat) (v : V) (n i : Nat) : Fr := ⟨[(1, .ptr (some (b, 0))), (4, .ptr (some (w, 0))), (42, v), (43, .int .i64 (n : Nat)), (44, .int .i64 (i : Nat))], []⟩
theorem enc_l1 (hb : HasBits P) {b1 w : Nat} {v : V} {l : List Int} {cs : List V} {B : List Bool} (hr : ∀ H', Hs H' R → Arr H' v 1 l.length (i64s l)) (hl : l.length ≤ 32768) (hn : ∀ n ∈ l, 0 ≤ n ∧ n < 32768) (hB : B.length ≤ 1000)
    (hs : Hs H (WrA w B 67108864 :: Cel b1 cs :: R)) {Qp : Post} {s' t'} (h1 : ∀ H' ex, Hs H' (WrA w (B ++ bytesBits (rfB l)) 67108864 :: Cel b1 cs :: R) → Qp (.exit 0) ⟨(1, .ptr (some (b1, 0))) :: (4, .ptr (some (w, 0))) :: ex, []⟩ H') :
    loopL (Call P) [1, 4, 42, 43, 44] segment_Encode_l1 Qp s' t' (en1F b1 w v l.length 0) H := by
  refine loop_cnt l.length (en1F b1 w v l.length) (fun i H => Hs H (WrA w (B ++ bytesBits (rfB (l.take i))) 67108864 :: Cel b1 cs :: R)) (fun i H K hi hS hx hy hz => ?_) 0 H (Nat.zero_le _) (by simpa [rfB, bytesBits] using hs)
  unfold en1F
  by_cases hlt : i < l.length
  · obtain ⟨b, o, c, rfl, rl⟩ := arr_int (hr H hS.tail.tail) hlt
    have h2 := rfB_snoc l hlt
    have h3 := hn _ (List.getElem_mem hlt)
    generalize l[i] = n at *
    have h4 := rfB_len (l := l.take i) fun m hm => hn m (List.mem_of_mem_take hm)
    rw [List.length_take, Nat.min_eq_left hi] at h4
    obtain ⟨m, rfl⟩ : ∃ m : Nat, n = (m : Nat) := ⟨n.toNat, by omega⟩
    rw [Int.toNat_natCast] at h2
    simp -implicitDefEqProofs -dsimp (disch := omega) only [go_sem, Nat.reduceEqDiff, ↓reduceIte, Nat.reduceAdd, Nat.reduceMul, Nat.reduceSub, Nat.reduceLT, Nat.reduceLeDiff, Int.reduceLT, Int.reduceLE, Int.reduceEq, Int.reduceNeg, Int.reduceAdd, Int.reduceMul, Int.reduceSub, Int.reduceToNat, reduceCtorEq, dec_t, dec_f, segment_Encode_l1, Int.toNat_natCast, Nat.mul_one, rl, wu64]
    refine wVarA hb hS (by omega) fun H' g => ?_
    rw [wVar_fit (by omega) (by rw [List.length_append, bytesBits_length]; omega)] at g
    simp -implicitDefEqProofs -dsimp (disch := omega) only [go_sem, Nat.reduceEqDiff, ↓reduceIte, Nat.reduceAdd, Nat.reduceMul, Nat.reduceSub, Nat.reduceLT, Nat.reduceLeDiff, Int.reduceLT, Int.reduceLE, Int.reduceEq, Int.reduceNeg, Int.reduceAdd, Int.reduceMul, Int.reduceSub, Int.reduceToNat, reduceCtorEq, dec_t, dec_f, w64, cadd1]
    refine hx hlt H' ?_
    rw [h2, bytesBits_app, ← List.append_assoc]
    exact g
  · have : i = l.length := by omega
    subst this
    rw [List.take_length] at hS
    simp -implicitDefEqProofs -dsimp (disch := omega) only [go_sem, Nat.reduceEqDiff, ↓reduceIte, Nat.reduceAdd, Nat.reduceMul, Nat.reduceSub, Nat.reduceLT, Nat.reduceLeDiff, Int.reduceLT, Int.reduceLE, Int.reduceEq, Int.reduceNeg, Int.reduceAdd, Int.reduceMul, Int.reduceSub, Int.reduceToNat, reduceCtorEq, dec_t, dec_f, segment_Encode_l1]
    rw [hy]
    exact h1 H _ hS
def en0F (b w : Nat) (v : V) (n i : Nat) : Fr := ⟨[(1, .ptr (some (b, 0))), (4, .ptr (some (w, 0))), (54, v), (55, .int .i64 (n : Nat)), (56, .int .i64 (i : Nat))], []⟩
theorem wPut_bit {l : List Bool} (b : Bool) (h : l.length + 1 ≤ 536870912) : (wPut l 67108864 b.toNat 1).2 = l ++ [b] := by
  have := wPut_ok (l := l) (most := 67108864) (n := b.toNat) (k := 1) (by omega) (fun _ => by cases b <;> decide) (by omega)
  rw [show ((1 : Nat) : Int) = 1 from rfl] at this
  rw [this]
  cases b <;> rfl
theorem enc_l0 (hp : HasSeg P) (hb : HasBits P) {b1 w : Nat} {v : V} {l : List Bool} {cs : List V} {B : List Bool} (hr : ∀ H', Hs H' R → Arr H' v 1 l.length (bools l)) (hl : l.length ≤ 32768) (hB : B.length ≤ 3000000)
    (hs : Hs H (WrA w B 67108864 :: Cel b1 cs :: R)) {Qp : Post} {s' t'} (h1 : ∀ H' ex, Hs H' (WrA w (B ++ l) 67108864 :: Cel b1 cs :: R) → Qp (.exit 2) ⟨(1, .ptr (some (b1, 0))) :: (4, .ptr (some (w, 0))) :: ex, []⟩ H') :
    loopL (Call P) [1, 4, 54, 55, 56] segment_Encode_l0 Qp s' t' (en0F b1 w v l.length 0) H := by
  refine loop_cnt l.length (en0F b1 w v l.length) (fun i H => Hs H (WrA w (B ++ l.take i) 67108864 :: Cel b1 cs :: R)) (fun i H K hi hS hx hy hz => ?_) 0 H (Nat.zero_le _) (by simpa using hs)
  unfold en0F
  by_cases hlt : i < l.length
  · obtain ⟨b, o, c, rfl, rl⟩ := arr_bool (hr H hS.tail.tail) hlt
    have h2 := List.take_succ_eq_append_getElem hlt
    generalize l[i] = n at *
    simp -implicitDefEqProofs -dsimp (disch := omega) only [go_sem, Nat.reduceEqDiff, ↓reduceIte, Nat.reduceAdd, Nat.reduceMul, Nat.reduceSub, Nat.reduceLT, Nat.reduceLeDiff, Int.reduceLT, Int.reduceLE, Int.reduceEq, Int.reduceNeg, Int.reduceAdd, Int.reduceMul, Int.reduceSub, Int.reduceToNat, reduceCtorEq, dec_t, dec_f, segment_Encode_l0, Int.toNat_natCast, Nat.mul_one, rl]
    refine sflag_ct hp ?_
    simp -implicitDefEqProofs -dsimp (disch := omega) only [go_sem, Nat.reduceEqDiff, ↓reduceIte, Nat.reduceAdd, Nat.reduceMul, Nat.reduceSub, Nat.reduceLT, Nat.reduceLeDiff, Int.reduceLT, Int.reduceLE, Int.reduceEq, Int.reduceNeg, Int.reduceAdd, Int.reduceMul, Int.reduceSub, Int.reduceToNat, reduceCtorEq, dec_t, dec_f, ]
    refine wPutA hb hS (by cases n <;> decide) (by decide) fun H' g => ?_
    rw [wPut_bit n (by rw [List.length_append, List.length_take]; omega)] at g
    simp -implicitDefEqProofs -dsimp (disch := omega) only [go_sem, Nat.reduceEqDiff, ↓reduceIte, Nat.reduceAdd, Nat.reduceMul, Nat.reduceSub, Nat.reduceLT, Nat.reduceLeDiff, Int.reduceLT, Int.reduceLE, Int.reduceEq, Int.reduceNeg, Int.reduceAdd, Int.reduceMul, Int.reduceSub, Int.reduceToNat, reduceCtorEq, dec_t, dec_f, w64, cadd1]
    refine hx hlt H' ?_
    rw [h2, ← List.append_assoc]
    exact g
  · have : i = l.length := by omega
    subst this
    rw [List.take_length] at hS
    simp -implicitDefEqProofs -dsimp (disch := omega) only [go_sem, Nat.reduceEqDiff, ↓reduceIte, Nat.reduceAdd, Nat.reduceMul, Nat.reduceSub, Nat.reduceLT, Nat.reduceLeDiff, Int.reduceLT, Int.reduceLE, Int.reduceEq, Int.reduceNeg, Int.reduceAdd, Int.reduceMul, Int.reduceSub, Int.reduceToNat, reduceCtorEq, dec_t, dec_f, segment_Encode_l0]
    rw [hy]
    exact h1 H _ hS
set_option maxHeartbeats 1000000 in
theorem encode_ct (hp : HasSeg P) (hb : HasBits P) {v1 v2 v3 : V} {s : Sg} (hR : ∀ H', Hs H' R → SgR H' v1 v2 v3 s) (hs : Hs H R)
    (h1 : May s → ∀ v' H', Hs H' (Lst v' 1 (hdr s).length (u8s (hdr s)) :: R) → Q (.ret (.tup [v', .int .i64 0])) H') (h2 : ¬ May s → ∀ H', Hs H' R → Q (.ret (.tup [.sl none 0 0 0, .int .i64 161])) H') : Call P 156 [.agg (s.cells v1 v2 v3)] H Q := by
  refine call_of hp.h_segment_Encode rfl ?_
  have hr0 := hR H hs
  have hR' := fun H' h => hR H' h
  obtain ⟨a1, c1, e1, rfl⟩ := hr0.refs.shape
  obtain ⟨a2, c2, e2, rfl⟩ := hr0.keep.shape
  obtain ⟨a3, c3, e3, rfl⟩ := hr0.data.shape
  have g1 := hs.alloc (l := s.cells (.sl a1 s.refs.length c1 e1) (.sl a2 s.keep.length c2 e2) (.sl a3 s.data.length c3 e3))
  have cm := rd_m g1.cel 7
  obtain ⟨num, kind, page, refs, keep, stay, data⟩ := s
  unfold Sg.cells at g1 cm ⊢
  dsimp only at *
  simp -implicitDefEqProofs -dsimp (disch := omega) only [go_sem, Nat.reduceEqDiff, ↓reduceIte, Nat.reduceAdd, Nat.reduceMul, Nat.reduceSub, Nat.reduceLT, Nat.reduceLeDiff, Int.reduceLT, Int.reduceLE, Int.reduceEq, Int.reduceNeg, Int.reduceAdd, Int.reduceMul, Int.reduceSub, Int.reduceToNat, reduceCtorEq, dec_t, dec_f, cm]
  generalize H.new _ = H1 at *
  generalize H.next = b1 at *
  have hr1 := hR' _ g1.tail
  refine check_ct hp hr1 fun H2 s2 => ?_
  have g2 := g1.keep s2
  by_cases hm : May ⟨num, kind, page, refs, keep, stay, data⟩
  rotate_left
  · rw [mayB_f hm]
    simp -implicitDefEqProofs -dsimp (disch := omega) only [go_sem, Nat.reduceEqDiff, ↓reduceIte, Nat.reduceAdd, Nat.reduceMul, Nat.reduceSub, Nat.reduceLT, Nat.reduceLeDiff, Int.reduceLT, Int.reduceLE, Int.reduceEq, Int.reduceNeg, Int.reduceAdd, Int.reduceMul, Int.reduceSub, Int.reduceToNat, reduceCtorEq, dec_t, dec_f, ]
    exact h2 hm _ g2.tail
  rw [mayB_t hm]
  have n0 := hm.n0
  have n1 := hm.n1
  have nk := hm.kind
  have npg := hm.page
  have nl := may_len hm
  have nkp := hm.keep
  have nin := hm.incr
  have nd := hm.most
  unfold kindOk at nk
  unfold pagedP at npg
  dsimp only at n0 n1 nk npg nl nkp nin nd
  have nrf : ∀ n ∈ refs, 0 ≤ n ∧ n < 32768 := fun n h => by have := incr_all nin n h; omega
  have npg2 : 0 ≤ page ∧ page ≤ 64 := by omega
  clear npg
  simp -implicitDefEqProofs -dsimp (disch := omega) only [go_sem, Nat.reduceEqDiff, ↓reduceIte, Nat.reduceAdd, Nat.reduceMul, Nat.reduceSub, Nat.reduceLT, Nat.reduceLeDiff, Int.reduceLT, Int.reduceLE, Int.reduceEq, Int.reduceNeg, Int.reduceAdd, Int.reduceMul, Int.reduceSub, Int.reduceToNat, reduceCtorEq, dec_t, dec_f, ]
  refine newWriterA hb g2 (by omega) (fun k => by omega) fun _ _ w H3 g3 => ?_
  rw [show ((67108864 : Int).toNat) = 67108864 from rfl] at g3
  have q1 := rd_s (Hs.p1 g3).cel
  simp -implicitDefEqProofs -dsimp (disch := omega) only [go_sem, Nat.reduceEqDiff, ↓reduceIte, Nat.reduceAdd, Nat.reduceMul, Nat.reduceSub, Nat.reduceLT, Nat.reduceLeDiff, Int.reduceLT, Int.reduceLE, Int.reduceEq, Int.reduceNeg, Int.reduceAdd, Int.reduceMul, Int.reduceSub, Int.reduceToNat, reduceCtorEq, dec_t, dec_f, q1, wu64]
  obtain ⟨kn, rfl⟩ : ∃ k : Nat, num = (k : Nat) := ⟨num.toNat, by omega⟩
  obtain ⟨kk, rfl⟩ : ∃ k : Nat, kind = (k : Nat) := ⟨kind.toNat, by omega⟩
  obtain ⟨kp, rfl⟩ : ∃ k : Nat, page = (k : Nat) := ⟨page.toNat, by omega⟩
  refine wVarA hb g3 (by omega) fun H4 g4 => ?_
  rw [wVar_fit (by omega) (by simp)] at g4
  have q1 := rd_s (Hs.p1 g4).cel
  have lk := groups_le (n := kn) (by omega)
  have lp := groups_le (n := kp) (by omega)
  have lr := groups_le (n := refs.length) (by omega)
  simp -implicitDefEqProofs -dsimp (disch := omega) only [go_sem, Nat.reduceEqDiff, ↓reduceIte, Nat.reduceAdd, Nat.reduceMul, Nat.reduceSub, Nat.reduceLT, Nat.reduceLeDiff, Int.reduceLT, Int.reduceLE, Int.reduceEq, Int.reduceNeg, Int.reduceAdd, Int.reduceMul, Int.reduceSub, Int.reduceToNat, reduceCtorEq, dec_t, dec_f, q1, wu64]
  refine wPutA hb g4 (by omega) (by decide) fun H5 g5 => ?_
  have hpk := wPut_ok (l := [] ++ bytesBits (groups kn)) (most := 67108864) (n := kk) (k := 8) (by omega) (fun _ => by omega) (by rw [List.nil_append, bytesBits_length]; omega)
  rw [show ((8 : Nat) : Int) = 8 from rfl] at hpk
  rw [hpk] at g5
  dsimp only at g5
  have q1 := rd_s (Hs.p1 g5).cel
  simp -implicitDefEqProofs -dsimp (disch := omega) only [go_sem, Nat.reduceEqDiff, ↓reduceIte, Nat.reduceAdd, Nat.reduceMul, Nat.reduceSub, Nat.reduceLT, Nat.reduceLeDiff, Int.reduceLT, Int.reduceLE, Int.reduceEq, Int.reduceNeg, Int.reduceAdd, Int.reduceMul, Int.reduceSub, Int.reduceToNat, reduceCtorEq, dec_t, dec_f, q1, wu64]
  refine wVarA hb g5 (by omega) fun H6 g6 => ?_
  rw [wVar_fit (by omega) (by simp only [List.nil_append, List.length_append, bytesBits_length, bitsOf_length]; omega)] at g6
  have q1 := rd_s (Hs.p1 g6).cel
  simp -implicitDefEqProofs -dsimp (disch := omega) only [go_sem, Nat.reduceEqDiff, ↓reduceIte, Nat.reduceAdd, Nat.reduceMul, Nat.reduceSub, Nat.reduceLT, Nat.reduceLeDiff, Int.reduceLT, Int.reduceLE, Int.reduceEq, Int.reduceNeg, Int.reduceAdd, Int.reduceMul, Int.reduceSub, Int.reduceToNat, reduceCtorEq, dec_t, dec_f, q1, wu64]
  refine wVarA hb g6 (by omega) fun H7 g7 => ?_
  rw [wVar_fit (by omega) (by simp only [List.nil_append, List.length_append, bytesBits_length, bitsOf_length]; omega)] at g7
  have q1 := rd_s (Hs.p1 g7).cel
  simp -implicitDefEqProofs -dsimp (disch := omega) only [go_sem, Nat.reduceEqDiff, ↓reduceIte, Nat.reduceAdd, Nat.reduceMul, Nat.reduceSub, Nat.reduceLT, Nat.reduceLeDiff, Int.reduceLT, Int.reduceLE, Int.reduceEq, Int.reduceNeg, Int.reduceAdd, Int.reduceMul, Int.reduceSub, Int.reduceToNat, reduceCtorEq, dec_t, dec_f, q1]
  refine enc_l1 (l := refs) hb (fun H' h => (hR' H' h).refs) (by omega) nrf (by simp only [List.nil_append, List.length_append, bytesBits_length, bitsOf_length]; omega) g7 fun H8 ex g8 => ?_
  have lrf := rfB_len nrf
  have q1 := rd_s (Hs.p1 g8).cel
  simp -implicitDefEqProofs -dsimp (disch := omega) only [go_sem, Nat.reduceEqDiff, ↓reduceIte, Nat.reduceAdd, Nat.reduceMul, Nat.reduceSub, Nat.reduceLT, Nat.reduceLeDiff, Int.reduceLT, Int.reduceLE, Int.reduceEq, Int.reduceNeg, Int.reduceAdd, Int.reduceMul, Int.reduceSub, Int.reduceToNat, reduceCtorEq, dec_t, dec_f, q1]
  refine enc_l0 (l := keep) hp hb (fun H' h => (hR' H' h).keep) (by omega) (by simp only [List.nil_append, List.length_append, bytesBits_length, bitsOf_length]; omega) g8 fun H9 ex g9 => ?_
  have q1 := rd_s (Hs.p1 g9).cel
  simp -implicitDefEqProofs -dsimp (disch := omega) only [go_sem, Nat.reduceEqDiff, ↓reduceIte, Nat.reduceAdd, Nat.reduceMul, Nat.reduceSub, Nat.reduceLT, Nat.reduceLeDiff, Int.reduceLT, Int.reduceLE, Int.reduceEq, Int.reduceNeg, Int.reduceAdd, Int.reduceMul, Int.reduceSub, Int.reduceToNat, reduceCtorEq, dec_t, dec_f, q1]
  refine sflag_ct hp ?_
  simp -implicitDefEqProofs -dsimp (disch := omega) only [go_sem, Nat.reduceEqDiff, ↓reduceIte, Nat.reduceAdd, Nat.reduceMul, Nat.reduceSub, Nat.reduceLT, Nat.reduceLeDiff, Int.reduceLT, Int.reduceLE, Int.reduceEq, Int.reduceNeg, Int.reduceAdd, Int.reduceMul, Int.reduceSub, Int.reduceToNat, reduceCtorEq, dec_t, dec_f, ]
  refine wPutA hb g9 (by cases stay <;> decide) (by decide) fun H10 g10 => ?_
  rw [wPut_bit stay (by simp only [List.nil_append, List.length_append, bytesBits_length, bitsOf_length]; omega)] at g10
  simp -implicitDefEqProofs -dsimp (disch := omega) only [go_sem, Nat.reduceEqDiff, ↓reduceIte, Nat.reduceAdd, Nat.reduceMul, Nat.reduceSub, Nat.reduceLT, Nat.reduceLeDiff, Int.reduceLT, Int.reduceLE, Int.reduceEq, Int.reduceNeg, Int.reduceAdd, Int.reduceMul, Int.reduceSub, Int.reduceToNat, reduceCtorEq, dec_t, dec_f, ]
  refine wAlignA hb g10 fun H11 g11 => ?_
  have q1 := rd_s (Hs.p1 g11).cel
  simp -implicitDefEqProofs -dsimp (disch := omega) only [go_sem, Nat.reduceEqDiff, ↓reduceIte, Nat.reduceAdd, Nat.reduceMul, Nat.reduceSub, Nat.reduceLT, Nat.reduceLeDiff, Int.reduceLT, Int.reduceLE, Int.reduceEq, Int.reduceNeg, Int.reduceAdd, Int.reduceMul, Int.reduceSub, Int.reduceToNat, reduceCtorEq, dec_t, dec_f, q1, wu64]
  refine wVarA hb g11 (by omega) fun H12 g12 => ?_
  rw [wVar_fit (by omega) (by rw [wAlign_length]; simp only [List.nil_append, List.length_append, bytesBits_length, bitsOf_length, List.length_singleton]; omega)] at g12
  simp -implicitDefEqProofs -dsimp (disch := omega) only [go_sem, Nat.reduceEqDiff, ↓reduceIte, Nat.reduceAdd, Nat.reduceMul, Nat.reduceSub, Nat.reduceLT, Nat.reduceLeDiff, Int.reduceLT, Int.reduceLE, Int.reduceEq, Int.reduceNeg, Int.reduceAdd, Int.reduceMul, Int.reduceSub, Int.reduceToNat, reduceCtorEq, dec_t, dec_f, ]
  refine wBytesA hb g12 fun v' H13 g13 => ?_
  have hk8 : (Sg.mk (kn : Nat) (kk : Nat) (kp : Nat) refs keep stay data).kind.toNat < 256 := by dsimp only; omega
  have e13 := hdr_pack hk8
  have eA : bytesBits (hdA ⟨(kn : Nat), (kk : Nat), (kp : Nat), refs, keep, stay, data⟩) = [] ++ bytesBits (groups kn) ++ bitsOf kk 8 ++ bytesBits (groups kp) ++ bytesBits (groups refs.length) ++ bytesBits (rfB refs) := by
    unfold hdA rfB
    simp only [Int.toNat_natCast, bytesBits_app, bytesBits_one, List.nil_append, List.append_assoc]
  rw [eA] at e13
  dsimp only at e13
  rw [e13] at g13
  simp -implicitDefEqProofs -dsimp (disch := omega) only [go_sem, Nat.reduceEqDiff, ↓reduceIte, Nat.reduceAdd, Nat.reduceMul, Nat.reduceSub, Nat.reduceLT, Nat.reduceLeDiff, Int.reduceLT, Int.reduceLE, Int.reduceEq, Int.reduceNeg, Int.reduceAdd, Int.reduceMul, Int.reduceSub, Int.reduceToNat, reduceCtorEq, dec_t, dec_f, ]
  exact h1 hm _ _ (Hs.p1 g13).tail.p1.tail
end
end Go.Ab
