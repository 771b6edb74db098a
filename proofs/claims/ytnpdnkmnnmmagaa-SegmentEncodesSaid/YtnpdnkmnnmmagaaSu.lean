/- The reference's segments: the header. Conditions: none. -/
import Derived.Test.YtnpdnkmnnmmagaaSt
import Derived.Test.YtnpdnkmnnmmagaaSi
set_option linter.all false
namespace Go.Ab
section
variable {P : Prog} {H : Heap} {R : List As} {Q : Out → Heap → Prop}
/-- Groups, laid behind a list. -/
theorem grp_on {v : V} {B : List Nat} {n : Nat} {v2 : V} {H2 : Heap} (hs : Hs H (Lst v 1 B.length (u8s B) :: R)) (hb : Bytes H2 v2 (groups n)) (sm : Same (fun _ => False) H H2) (hl : B.length ≤ 1000000) (hn : n < 18446744073709551616) :
    ∃ v3 H3, app H2 1 1 v v2 = some (v3, H3) ∧ Hs H3 (Lst v3 1 (B ++ groups n).length (u8s (B ++ groups n)) :: R) := by
  have hg := groups_le hn
  have h2 := hs.keep sm
  obtain ⟨v3, H3, ha, ho, s3, f3⟩ := app_own (eb := 1) h2.own (firsts_arr hb.arr) (by simp [u8s]) (u8s_one _) (by omega) (by omega)
  have h3 := h2.lst' s3 ho f3
  rw [show u8s B ++ u8s (groups n) = u8s (B ++ groups n) by simp [u8s], ← List.length_append] at h3
  exact ⟨v3, H3, ha, h3⟩
structure ErX where
  i : Nat
  v : V
def ErX.fr (b1 w : Nat) (x : ErX) : Fr := ⟨[(1, .ptr (some (b1, 0))), (4, x.v), (5, .ptr (some (w, 0))), (6, .int .i64 (x.i : Nat))], []⟩
theorem rfB_one (l : List Int) {i : Nat} (hi : i < l.length) : rfB (l.take (i + 1)) = rfB (l.take i) ++ groups l[i].toNat := rfB_snoc l hi
set_option maxHeartbeats 1000000 in
theorem encR_loop (hp : HasRf16 P) (hb : HasRefBits P) {b1 w : Nat} {va vb vd ve : V} {v1 v2 v0 : V} {num : Int} {refs : List Int} {keep : List Bool} {B : List Nat} (hR : ∀ H', Hs H' R → Arr H' v1 1 refs.length (i64s refs) ∧ Arr H' v2 1 keep.length (bools keep))
    (hk : keep.length = refs.length) (hl : refs.length ≤ 32768) (hn : ∀ n ∈ refs, 0 ≤ n ∧ n < 32768) (hB : B.length ≤ 1000)
    (hs : Hs H (Lst v0 1 B.length (u8s B) :: RWA w [] 67108864 :: Cel b1 [.int .i64 num, va, vb, v1, v2, vd, ve] :: R)) {Qp : Post} {s' t'}
    (h1 : ∀ v H' ex, Hs H' (Lst v 1 (B ++ rfB refs).length (u8s (B ++ rfB refs)) :: RWA w keep 67108864 :: Cel b1 [.int .i64 num, va, vb, v1, v2, vd, ve] :: R) → Qp (.exit 0) ⟨(1, .ptr (some (b1, 0))) :: (4, v) :: (5, .ptr (some (w, 0))) :: ex, []⟩ H') :
    loopL (Call P) [1, 4, 5, 6] burinref16_Encode_l0 Qp s' t' (ErX.fr b1 w ⟨0, v0⟩) H := by
  refine loop_dec (σ := ErX) (fun x => refs.length - x.i) (ErX.fr b1 w) (fun x H => x.i ≤ refs.length ∧ Hs H (Lst x.v 1 (B ++ rfB (refs.take x.i)).length (u8s (B ++ rfB (refs.take x.i))) :: RWA w (keep.take x.i) 67108864 :: Cel b1 [.int .i64 num, va, vb, v1, v2, vd, ve] :: R)) (fun x H K ok hn' hx hy => ?_) ⟨0, v0⟩ H ⟨Nat.zero_le _, by simpa [rfB] using hs⟩
  obtain ⟨i, v⟩ := x
  obtain ⟨hi, h⟩ := ok
  dsimp only at hi h hn'
  obtain ⟨ha, hkk⟩ := hR H h.tail.tail.tail
  have rc := rd_s (Hs.p2 h).cel
  obtain ⟨a1, c1, e1, hv1⟩ := ha.shape
  unfold ErX.fr
  by_cases hlt : i < refs.length
  · obtain ⟨b, o, c, rfl, rl⟩ := arr_int ha hlt
    clear hv1
    have hx1 := rfB_one refs hlt
    have hx2 := List.take_succ_eq_append_getElem (l := keep) (i := i) (by omega)
    have h3 := hn _ (List.getElem_mem hlt)
    have hB2 := rfB_len (l := refs.take i) fun m hm => hn m (List.mem_of_mem_take hm)
    rw [List.length_take, Nat.min_eq_left hi] at hB2
    generalize refs[i] = n at *
    obtain ⟨m, rfl⟩ : ∃ m : Nat, n = (m : Nat) := ⟨n.toNat, by omega⟩
    rw [Int.toNat_natCast] at hx1
    simp -implicitDefEqProofs -dsimp (disch := omega) only [go_sem, Nat.reduceEqDiff, ↓reduceIte, Nat.reduceAdd, Nat.reduceMul, Nat.reduceSub, Nat.reduceLT, Nat.reduceLeDiff, Int.reduceLT, Int.reduceLE, Int.reduceEq, Int.reduceNeg, Int.reduceAdd, Int.reduceMul, Int.reduceSub, Int.reduceToNat, reduceCtorEq, dec_t, dec_f, burinref16_Encode_l0, rc, Int.toNat_natCast, Nat.mul_one, rl, wu64]
    refine groups_ct hb (by omega) fun g H2 hb2 s2 f2 => ?_
    obtain ⟨v3, H3, ha3, g3⟩ := grp_on h hb2 s2 (by rw [List.length_append]; omega) (by omega)
    obtain ⟨ga, gc, ge, rfl⟩ := hb2.arr.shape
    have rc3 := rd_s (Hs.p2 g3).cel
    obtain ⟨_, hk3⟩ := hR H3 g3.tail.tail.tail
    obtain ⟨kb, ko, kc, hkv, rk⟩ := arr_bool hk3 (i := i) (by omega)
    rw [hkv] at rc3
    simp -implicitDefEqProofs -dsimp (disch := omega) only [go_sem, Nat.reduceEqDiff, ↓reduceIte, Nat.reduceAdd, Nat.reduceMul, Nat.reduceSub, Nat.reduceLT, Nat.reduceLeDiff, Int.reduceLT, Int.reduceLE, Int.reduceEq, Int.reduceNeg, Int.reduceAdd, Int.reduceMul, Int.reduceSub, Int.reduceToNat, reduceCtorEq, dec_t, dec_f, ha3, rc3, Int.toNat_natCast, Nat.mul_one, rk]
    generalize keep[i] = kb at *
    refine bitR_ct hp ?_
    simp -implicitDefEqProofs -dsimp (disch := omega) only [go_sem, Nat.reduceEqDiff, ↓reduceIte, Nat.reduceAdd, Nat.reduceMul, Nat.reduceSub, Nat.reduceLT, Nat.reduceLeDiff, Int.reduceLT, Int.reduceLE, Int.reduceEq, Int.reduceNeg, Int.reduceAdd, Int.reduceMul, Int.reduceSub, Int.reduceToNat, reduceCtorEq, dec_t, dec_f, ]
    refine rwPutA hb (Hs.p1 g3) (by cases kb <;> decide) (by decide) fun H4 g4 => ?_
    rw [wPut_bit kb (by rw [List.length_take]; omega)] at g4
    simp -implicitDefEqProofs -dsimp (disch := omega) only [go_sem, Nat.reduceEqDiff, ↓reduceIte, Nat.reduceAdd, Nat.reduceMul, Nat.reduceSub, Nat.reduceLT, Nat.reduceLeDiff, Int.reduceLT, Int.reduceLE, Int.reduceEq, Int.reduceNeg, Int.reduceAdd, Int.reduceMul, Int.reduceSub, Int.reduceToNat, reduceCtorEq, dec_t, dec_f, w64, cadd1]
    refine hn' ⟨i + 1, v3⟩ H4 (by dsimp only; omega) ⟨by dsimp only; omega, ?_⟩
    dsimp only
    rw [hx1, hx2, ← List.append_assoc]
    exact Hs.p1 g4
  · have : i = refs.length := by omega
    subst this
    rw [List.take_length, ← hk, List.take_length] at h
    rw [hv1] at rc
    simp -implicitDefEqProofs -dsimp (disch := omega) only [go_sem, Nat.reduceEqDiff, ↓reduceIte, Nat.reduceAdd, Nat.reduceMul, Nat.reduceSub, Nat.reduceLT, Nat.reduceLeDiff, Int.reduceLT, Int.reduceLE, Int.reduceEq, Int.reduceNeg, Int.reduceAdd, Int.reduceMul, Int.reduceSub, Int.reduceToNat, reduceCtorEq, dec_t, dec_f, burinref16_Encode_l0, rc]
    rw [hx]
    exact h1 _ H _ h
theorem toRWA {w most : Nat} (h : Hs H (Cel w [.int .i64 most, .sl none 0 0 0] :: R)) (hm : most ≤ 67108864) : Hs H (RWA w [] most :: R) :=
  h.step fun F ⟨h1, h2, h3⟩ => ⟨fun _ => False, F, Same.refl _ _, fun _ _ h => h.elim, ⟨.sl none 0 0 0, fun b => (h1 b).trans ⟨Or.inl, fun h => h.elim id False.elim⟩, ⟨h2, own_nil _ _, h3, fun h => h, by simp, hm⟩⟩, fun _ h => Or.inl h⟩
set_option maxHeartbeats 2000000 in
theorem encR_ct (hp : HasRf16 P) (hb : HasRefBits P) {v1 v2 v3 : V} {s : Sg} (hR : ∀ H', Hs H' R → SgR H' v1 v2 v3 s) (hs : Hs H R)
    (h1 : May s → ∀ v' H', Hs H' (Lst v' 1 (hdr s).length (u8s (hdr s)) :: R) → Q (.ret (.tup [v', .int .i64 0])) H') (h2 : ¬ May s → ∀ H', Hs H' R → Q (.ret (.tup [.sl none 0 0 0, .int .i64 161])) H') : Call P 172 [.agg (s.cells v1 v2 v3)] H Q := by
  refine call_of hp.h_burinref16_Encode rfl ?_
  have hr0 := hR H hs
  have hR' := fun H' h => hR H' h
  obtain ⟨a1, c1, e1, rfl⟩ := hr0.refs.shape
  obtain ⟨a2, c2, e2, rfl⟩ := hr0.keep.shape
  obtain ⟨a3, c3, e3, rfl⟩ := hr0.data.shape
  have g1 := hs.alloc (l := s.cells (.sl a1 s.refs.length c1 e1) (.sl a2 s.keep.length c2 e2) (.sl a3 s.data.length c3 e3))
  have cm := rd_m g1.cel 7
  have c0 := rd_s g1.cel
  obtain ⟨num, kind, page, refs, keep, stay, data⟩ := s
  unfold Sg.cells at g1 cm c0 ⊢
  dsimp only at *
  simp -implicitDefEqProofs -dsimp (disch := omega) only [go_sem, Nat.reduceEqDiff, ↓reduceIte, Nat.reduceAdd, Nat.reduceMul, Nat.reduceSub, Nat.reduceLT, Nat.reduceLeDiff, Int.reduceLT, Int.reduceLE, Int.reduceEq, Int.reduceNeg, Int.reduceAdd, Int.reduceMul, Int.reduceSub, Int.reduceToNat, reduceCtorEq, dec_t, dec_f, cm]
  generalize H.new _ = H1 at *
  generalize H.next = b1 at *
  have hr1 := hR' _ g1.tail
  refine mayR_ct hp hr1 fun H2 s2 => ?_
  have g2 := g1.keep s2
  by_cases hm : May ⟨num, kind, page, refs, keep, stay, data⟩
  rotate_left
  · rw [mayB_f hm]
    simp -implicitDefEqProofs -dsimp (disch := omega) only [go_sem, Nat.reduceEqDiff, ↓reduceIte, Nat.reduceAdd, Nat.reduceMul, Nat.reduceSub, Nat.reduceLT, Nat.reduceLeDiff, Int.reduceLT, Int.reduceLE, Int.reduceEq, Int.reduceNeg, Int.reduceAdd, Int.reduceMul, Int.reduceSub, Int.reduceToNat, reduceCtorEq, dec_t, dec_f, ]
    exact h2 hm _ g2.tail
  rw [mayB_t hm]
  have n0 := hm.n0
  have n1 := hm.n1
  have nk := hm.kind
  have npg := hm.page
  have nl := may_len hm
  have nkp := hm.keep
  have nin := hm.incr
  have nd := hm.most
  unfold kindOk at nk
  unfold pagedP at npg
  dsimp only at n0 n1 nk npg nl nkp nin nd
  have nrf : ∀ n ∈ refs, 0 ≤ n ∧ n < 32768 := fun n h => by have := incr_all nin n h; omega
  have npg2 : 0 ≤ page ∧ page ≤ 64 := by omega
  clear npg
  obtain ⟨kn, rfl⟩ : ∃ k : Nat, num = (k : Nat) := ⟨num.toNat, by omega⟩
  obtain ⟨kk, rfl⟩ : ∃ k : Nat, kind = (k : Nat) := ⟨kind.toNat, by omega⟩
  obtain ⟨kp, rfl⟩ : ∃ k : Nat, page = (k : Nat) := ⟨page.toNat, by omega⟩
  have c2' := rd_s g2.cel
  have lk := groups_le (n := kn) (by omega)
  have lp := groups_le (n := kp) (by omega)
  have lr := groups_le (n := refs.length) (by omega)
  have lrf := rfB_len nrf
  simp -implicitDefEqProofs -dsimp (disch := omega) only [go_sem, Nat.reduceEqDiff, ↓reduceIte, Nat.reduceAdd, Nat.reduceMul, Nat.reduceSub, Nat.reduceLT, Nat.reduceLeDiff, Int.reduceLT, Int.reduceLE, Int.reduceEq, Int.reduceNeg, Int.reduceAdd, Int.reduceMul, Int.reduceSub, Int.reduceToNat, reduceCtorEq, dec_t, dec_f, c2', wu64, wu8]
  have g3 := g2.alloc (l := [.int .u8 (kk : Nat)])
  have cb := g3.cel
  have c3' := rd_s (Hs.p1 g3).cel
  refine groups_ct hb (by omega) fun x1 H4 b4 s4 f4 => ?_
  have g4 := g3.lst s4 b4 f4
  have cb4 := (Hs.p1 g4).cel
  have c4 := rd_s (Hs.p2 g4).cel
  have fb := firsts_arr ((Hs.p1 g4).toLst (n := 1) (e := 1) rfl).own.arr
  obtain ⟨x2, H5, ha5, o5, s5, f5⟩ := app_own (eb := 1) g4.own fb rfl rfl (by omega) (by omega)
  have g5 := g4.lst' s5 o5 f5
  have g5 := (Hs.p1 g5).tail
  rw [show u8s (groups kn) ++ [V.int .u8 (kk : Nat)] = u8s (groups kn ++ [kk]) by simp [u8s], show (groups kn).length + 1 = (groups kn ++ [kk]).length by simp] at g5
  obtain ⟨xa, xc, xe, rfl⟩ := b4.arr.shape
  simp -implicitDefEqProofs -dsimp (disch := omega) only [go_sem, Nat.reduceEqDiff, ↓reduceIte, Nat.reduceAdd, Nat.reduceMul, Nat.reduceSub, Nat.reduceLT, Nat.reduceLeDiff, Int.reduceLT, Int.reduceLE, Int.reduceEq, Int.reduceNeg, Int.reduceAdd, Int.reduceMul, Int.reduceSub, Int.reduceToNat, reduceCtorEq, dec_t, dec_f, ]
  refine aft_intro (t := tag _) (by simp [rechecks, recheck, fresh, Fr.get, Fr.put, look, step, opd, c4, cb4, parts2, fillA, reps, over, V.cells]) ?_
  have c5 := rd_s (Hs.p1 g5).cel
  simp -implicitDefEqProofs -dsimp (disch := omega) only [go_sem, Nat.reduceEqDiff, ↓reduceIte, Nat.reduceAdd, Nat.reduceMul, Nat.reduceSub, Nat.reduceLT, Nat.reduceLeDiff, Int.reduceLT, Int.reduceLE, Int.reduceEq, Int.reduceNeg, Int.reduceAdd, Int.reduceMul, Int.reduceSub, Int.reduceToNat, reduceCtorEq, dec_t, dec_f, ha5, c5, wu64]
  refine groups_ct hb (by omega) fun x3 H6 b6 s6 f6 => ?_
  obtain ⟨x4, H7, ha7, g7⟩ := grp_on g5 b6 s6 (by rw [List.length_append, List.length_singleton]; omega) (by omega)
  obtain ⟨ya, yc, ye, rfl⟩ := b6.arr.shape
  have c7 := rd_s (Hs.p1 g7).cel
  simp -implicitDefEqProofs -dsimp (disch := omega) only [go_sem, Nat.reduceEqDiff, ↓reduceIte, Nat.reduceAdd, Nat.reduceMul, Nat.reduceSub, Nat.reduceLT, Nat.reduceLeDiff, Int.reduceLT, Int.reduceLE, Int.reduceEq, Int.reduceNeg, Int.reduceAdd, Int.reduceMul, Int.reduceSub, Int.reduceToNat, reduceCtorEq, dec_t, dec_f, ha7, c7, wu64]
  refine groups_ct hb (by omega) fun x5 H8 b8 s8 f8 => ?_
  obtain ⟨x6, H9, ha9, g9⟩ := grp_on g7 b8 s8 (by simp only [List.length_append, List.length_singleton]; omega) (by omega)
  obtain ⟨za, zc, ze, rfl⟩ := b8.arr.shape
  have g10 := toRWA (g9.alloc (l := [.int .i64 ((67108864 : Nat) : Int), .sl none 0 0 0])) (by omega)
  rw [show ((67108864 : Nat) : Int) = 67108864 from rfl] at g10
  simp -implicitDefEqProofs -dsimp (disch := omega) only [go_sem, Nat.reduceEqDiff, ↓reduceIte, Nat.reduceAdd, Nat.reduceMul, Nat.reduceSub, Nat.reduceLT, Nat.reduceLeDiff, Int.reduceLT, Int.reduceLE, Int.reduceEq, Int.reduceNeg, Int.reduceAdd, Int.reduceMul, Int.reduceSub, Int.reduceToNat, reduceCtorEq, dec_t, dec_f, ha9]
  refine encR_loop (va := .int .i64 (kk : Nat)) (vb := .int .i64 (kp : Nat)) (vd := .bool stay) (ve := .sl a3 data.length c3 e3) (v1 := .sl a1 refs.length c1 e1) (v2 := .sl a2 keep.length c2 e2) (num := (kn : Nat)) (refs := refs) (keep := keep) hp hb (fun H' h => ⟨(hR' H' h).refs, (hR' H' h).keep⟩) nkp (by omega) nrf (by simp only [List.length_append, List.length_singleton]; omega) (Hs.p1 g10) fun x7 H11 ex g11 => ?_
  have c11 := rd_s (Hs.p2 g11).cel
  simp -implicitDefEqProofs -dsimp (disch := omega) only [go_sem, Nat.reduceEqDiff, ↓reduceIte, Nat.reduceAdd, Nat.reduceMul, Nat.reduceSub, Nat.reduceLT, Nat.reduceLeDiff, Int.reduceLT, Int.reduceLE, Int.reduceEq, Int.reduceNeg, Int.reduceAdd, Int.reduceMul, Int.reduceSub, Int.reduceToNat, reduceCtorEq, dec_t, dec_f, c11]
  refine bitR_ct hp ?_
  simp -implicitDefEqProofs -dsimp (disch := omega) only [go_sem, Nat.reduceEqDiff, ↓reduceIte, Nat.reduceAdd, Nat.reduceMul, Nat.reduceSub, Nat.reduceLT, Nat.reduceLeDiff, Int.reduceLT, Int.reduceLE, Int.reduceEq, Int.reduceNeg, Int.reduceAdd, Int.reduceMul, Int.reduceSub, Int.reduceToNat, reduceCtorEq, dec_t, dec_f, ]
  refine rwPutA hb (Hs.p1 g11) (by cases stay <;> decide) (by decide) fun H12 g12 => ?_
  rw [wPut_bit stay (by omega)] at g12
  simp -implicitDefEqProofs -dsimp (disch := omega) only [go_sem, Nat.reduceEqDiff, ↓reduceIte, Nat.reduceAdd, Nat.reduceMul, Nat.reduceSub, Nat.reduceLT, Nat.reduceLeDiff, Int.reduceLT, Int.reduceLE, Int.reduceEq, Int.reduceNeg, Int.reduceAdd, Int.reduceMul, Int.reduceSub, Int.reduceToNat, reduceCtorEq, dec_t, dec_f, ]
  refine rwBytesA hb g12 fun x8 H13 g13 => ?_
  have g14 := Hs.p2 g13
  have hpk := pack_length (keep ++ [stay])
  rw [List.length_append, List.length_singleton] at hpk
  obtain ⟨x9, H15, ha15, o15, s15, f15⟩ := app_own (eb := 1) g14.own (firsts_arr (Hs.p1 g14).own.arr) (by simp [u8s]) (u8s_one _) (by omega) (by simp only [List.length_append, List.length_singleton]; omega)
  have g15 := g14.lst' s15 o15 f15
  have eA : groups kn ++ [kk] ++ groups kp ++ groups refs.length ++ rfB refs = hdA ⟨(kn : Nat), (kk : Nat), (kp : Nat), refs, keep, stay, data⟩ := by
    unfold hdA rfB; simp only [Int.toNat_natCast]
  rw [show u8s (groups kn ++ [kk] ++ groups kp ++ groups refs.length ++ rfB refs) ++ u8s (pack (keep ++ [stay])) = u8s (hdA ⟨(kn : Nat), (kk : Nat), (kp : Nat), refs, keep, stay, data⟩ ++ pack (keep ++ [stay])) by rw [← eA]; simp [u8s],
    show (groups kn ++ [kk] ++ groups kp ++ groups refs.length ++ rfB refs).length + (pack (keep ++ [stay])).length = (hdA ⟨(kn : Nat), (kk : Nat), (kp : Nat), refs, keep, stay, data⟩ ++ pack (keep ++ [stay])).length by rw [← eA]; simp only [List.length_append]] at g15
  have lA : (hdA ⟨(kn : Nat), (kk : Nat), (kp : Nat), refs, keep, stay, data⟩).length ≤ 400000 := by rw [← eA]; simp only [List.length_append, List.length_singleton]; omega
  obtain ⟨pa, pc, pe, rfl⟩ := (Hs.p1 g14).own.arr.shape
  have c15 := rd_s (Hs.p3 g15).cel
  simp -implicitDefEqProofs -dsimp (disch := omega) only [go_sem, Nat.reduceEqDiff, ↓reduceIte, Nat.reduceAdd, Nat.reduceMul, Nat.reduceSub, Nat.reduceLT, Nat.reduceLeDiff, Int.reduceLT, Int.reduceLE, Int.reduceEq, Int.reduceNeg, Int.reduceAdd, Int.reduceMul, Int.reduceSub, Int.reduceToNat, reduceCtorEq, dec_t, dec_f, ha15, c15, wu64]
  refine groups_ct hb (by omega) fun x10 H16 b16 s16 f16 => ?_
  obtain ⟨x11, H17, ha17, g17⟩ := grp_on g15 b16 s16 (by rw [List.length_append]; omega) (by omega)
  obtain ⟨qa, qc, qe, rfl⟩ := b16.arr.shape
  simp -implicitDefEqProofs -dsimp (disch := omega) only [go_sem, Nat.reduceEqDiff, ↓reduceIte, Nat.reduceAdd, Nat.reduceMul, Nat.reduceSub, Nat.reduceLT, Nat.reduceLeDiff, Int.reduceLT, Int.reduceLE, Int.reduceEq, Int.reduceNeg, Int.reduceAdd, Int.reduceMul, Int.reduceSub, Int.reduceToNat, reduceCtorEq, dec_t, dec_f, ha17]
  refine h1 hm x11 _ ?_
  unfold hdr
  exact (Hs.p1 (Hs.p1 (Hs.p1 g17).tail).tail).tail
end
end Go.Ab
