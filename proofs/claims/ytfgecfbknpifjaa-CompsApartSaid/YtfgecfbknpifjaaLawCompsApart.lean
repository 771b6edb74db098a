/- The law CompsApart. Conditions: none. -/
import Derived.Test.YtfgecfbknpifjaaPm
import Derived.Test.YtfgecfbknpifjaaPL10Apart
set_option linter.all false
namespace Go.Ab
section
variable {P : Prog} {H0 H : Heap} {o : BmO}
theorem getB_at {v : V} {w h x y : Nat} {p : Nat → Nat → Bool} {L : List As} {Q : Out → Heap → Prop} (hp : HasRz P) (hs : Hs H L) (ej : BmA v w h p ∈ L) (hx : x < w) (hy : y < h) (hQ : ∀ H', Hs H' L → Q (.ret (.int .i64 ((p x y).toNat : Nat))) H') :
    Call P 78 [.agg [.int .i64 w, .int .i64 h, v], .int .i64 x, .int .i64 y] H Q := by
  obtain ⟨z1, z2, z3, z4, z5⟩ := bmSz (hs.ofmem ej)
  obtain ⟨b, k⟩ := bmV (hs.ofmem ej)
  refine getR_ct hp hs (hs.bmarr ej) (Wds_length _ _ _) (Wds_lt _ _ _) ⟨z1, z4, k.words⟩ fun H' h' _ => ?_
  rw [getV_pix, show getV w h p x y = (p x y).toNat by unfold getV; rw [if_pos (by omega), Int.toNat_natCast, Int.toNat_natCast]]
  exact hQ H' h'
theorem grid_wr {R : List As} {ob w h x y k : Nat} {g : Nat → Nat → Nat} (hs : Hs H (Cel ob (grid w h g) :: R)) (hx : x < w) (hy : y < h) : ∃ H', wr H ob (y * w + x) [.int .i64 ((k : Nat) : Int)] = some H' ∧ Hs H' (Cel ob (grid w h (updN g x y k)) :: R) := by
  have hl := gix_lt hx hy
  obtain ⟨H', h1, h2⟩ := Hs.sto 0 hs rfl (o := y * w + x) (vs := [.int .i64 ((k : Nat) : Int)]) (by rw [grid_len]; simp only [List.length_cons, List.length_nil]; omega) rfl
  refine ⟨H', h1, ?_⟩
  rw [over_one (by rw [grid_len]; exact hl), grid_set g hx hy] at h2
  exact h2
set_option maxHeartbeats 1000000 in
theorem ap_l4 (hp : HasRz P) {Q : Post} {t : Tag Q} {s : Tag burinlaw10_CompsApart_l4} {b q ob : Nat} {ov v rv : V} {last : Int} {W Ht i X Y pw ph yy : Nat} {pp : Nat → Nat → Bool} {T : List As} {g : Nat → Nat → Nat → Nat → Nat} {f : Nat → Nat → Int} (mk : MarkR W i X Y pw ph pp g f)
    (hy : yy < ph) (hXW : X + pw ≤ W) (hYH : Y + ph ≤ Ht) (hsm : Ht * W ≤ 1048576) (hW : W ≤ 1048576) (hH : Ht ≤ 1048576) (hi : i < 1048576) (m1 : BmA rv pw ph pp ∈ T) (m2 : Cel b [.int .i64 (W : Nat), .int .i64 (Ht : Nat), v] ∈ T) (m3 : Cel q [.int .i64 (X : Nat), .int .i64 (Y : Nat), .int .i64 (pw : Nat), .int .i64 (ph : Nat), rv] ∈ T)
    (hs : Hs H (Cel ob (grid W Ht (g yy 0)) :: T))
    (hK : ∀ H' ex, Hs H' (Cel ob (grid W Ht (g (yy + 1) 0)) :: T) → Q (.exit 4) ⟨(1, .ptr (some (b, 0))) :: (3, ov) :: (5, .sl (some (ob, 0)) (Ht * W) (Ht * W) 1) :: (6, .int .i64 last) :: (7, .int .i64 (i : Nat)) :: (8, .ptr (some (q, 0))) :: (9, .int .i64 (f (yy + 1) 0)) :: (10, .int .i64 (yy : Nat)) :: ex, []⟩ H') :
    loopL (Call P) [1, 3, 5, 6, 7, 8, 9, 10, 11] burinlaw10_CompsApart_l4 Q t s ⟨[(1, .ptr (some (b, 0))), (3, ov), (5, .sl (some (ob, 0)) (Ht * W) (Ht * W) 1), (6, .int .i64 last), (7, .int .i64 (i : Nat)), (8, .ptr (some (q, 0))), (9, .int .i64 (f yy 0)), (10, .int .i64 (yy : Nat)), (11, .int .i64 ((0 : Nat) : Int))], []⟩ H := by
  refine loop_cnt pw (fun xx => ⟨[(1, .ptr (some (b, 0))), (3, ov), (5, .sl (some (ob, 0)) (Ht * W) (Ht * W) 1), (6, .int .i64 last), (7, .int .i64 (i : Nat)), (8, .ptr (some (q, 0))), (9, .int .i64 (f yy xx)), (10, .int .i64 (yy : Nat)), (11, .int .i64 (xx : Nat))], []⟩)
    (fun xx H => Hs H (Cel ob (grid W Ht (g yy xx)) :: T)) (fun xx H1 K hxx h1 hn hx hrr => ?_) 0 H (Nat.zero_le _) hs
  have c3 := rd_s (h1.tail.celm m3)
  have c4 := rd_m (h1.tail.celm m3) 3 2
  rw [show (piece [V.int .i64 (X : Nat), .int .i64 (Y : Nat), .int .i64 (pw : Nat), .int .i64 (ph : Nat), rv] 2 3).map V.agg = some (.agg [.int .i64 (pw : Nat), .int .i64 (ph : Nat), rv]) from rfl] at c4
  by_cases hlt : xx < pw
  · simp -implicitDefEqProofs -dsimp (disch := omega) only [go_sem, Nat.reduceEqDiff, ↓reduceIte, Nat.reduceAdd, Nat.reduceMul, Nat.reduceSub, Nat.reduceLT, Nat.reduceLeDiff, Int.reduceLT, Int.reduceLE, Int.reduceEq, Int.reduceNeg, Int.reduceAdd, Int.reduceMul, Int.reduceSub, Int.reduceToNat, reduceCtorEq, dec_t, dec_f, burinlaw10_CompsApart_l4, c3, c4]
    refine getB_at hp h1 (List.mem_cons_of_mem _ m1) hlt hy fun H2 h2 => ?_
    cases hb : pp xx yy with
    | false =>
      obtain ⟨e1, e2⟩ := mk.z yy xx hy hlt hb
      rw [← e1] at h2
      rw [e2] at hn
      simp -implicitDefEqProofs -dsimp (disch := omega) only [go_sem, Nat.reduceEqDiff, ↓reduceIte, Nat.reduceAdd, Nat.reduceMul, Nat.reduceSub, Nat.reduceLT, Nat.reduceLeDiff, Int.reduceLT, Int.reduceLE, Int.reduceEq, Int.reduceNeg, Int.reduceAdd, Int.reduceMul, Int.reduceSub, Int.reduceToNat, reduceCtorEq, dec_t, dec_f, Bool.toNat_false, w64, cadd1]
      exact hn hlt H2 h2
    | true =>
      obtain ⟨e0, e1, e2⟩ := mk.b yy xx hy hlt hb
      have c3 := rd_s (h2.tail.celm m3)
      have c2 := rd_s (h2.tail.celm m2)
      have hix := gix_lt (w := W) (h := Ht) (x := X + xx) (y := Y + yy) (by omega) (by omega)
      have eA : (((Y : Nat) : Int) + ((yy : Nat) : Int)) * ((W : Nat) : Int) = (((Y + yy) * W : Nat) : Int) := by rw [Int.natCast_mul, Int.natCast_add]
      have eB : (((Y + yy) * W : Nat) : Int) + ((X : Nat) : Int) + ((xx : Nat) : Int) = (((Y + yy) * W + (X + xx) : Nat) : Int) := by omega
      have hr := rd_s h2.cel ((Y + yy) * W + (X + xx))
      rw [grid_at _ (by omega) (by omega), e0] at hr
      obtain ⟨H3, w3, h3⟩ := grid_wr (k := i + 1) h2 (x := X + xx) (y := Y + yy) (by omega) (by omega)
      rw [← e1] at h3
      have eC : (((Y + yy) * W + X + xx : Nat) : Int) = (((Y + yy) * W + (X + xx) : Nat) : Int) := by omega
      rw [e2, eC] at hn
      by_cases c : f yy xx < 0
      · rw [if_pos c] at hn
        simp -implicitDefEqProofs -dsimp (disch := omega) only [go_sem, Nat.reduceEqDiff, ↓reduceIte, Nat.reduceAdd, Nat.reduceMul, Nat.reduceSub, Nat.reduceLT, Nat.reduceLeDiff, Int.reduceLT, Int.reduceLE, Int.reduceEq, Int.reduceNeg, Int.reduceAdd, Int.reduceMul, Int.reduceSub, Int.reduceToNat, reduceCtorEq, dec_t, dec_f, Bool.toNat_true, w64, cadd1, c2, c3, eA, eB, Int.toNat_natCast, Nat.mul_one, hr, w3]
        exact hn hlt H3 h3
      · rw [if_neg c] at hn
        simp -implicitDefEqProofs -dsimp (disch := omega) only [go_sem, Nat.reduceEqDiff, ↓reduceIte, Nat.reduceAdd, Nat.reduceMul, Nat.reduceSub, Nat.reduceLT, Nat.reduceLeDiff, Int.reduceLT, Int.reduceLE, Int.reduceEq, Int.reduceNeg, Int.reduceAdd, Int.reduceMul, Int.reduceSub, Int.reduceToNat, reduceCtorEq, dec_t, dec_f, Bool.toNat_true, w64, cadd1, c2, c3, eA, eB, Int.toNat_natCast, Nat.mul_one, hr, w3]
        exact hn hlt H3 h3
  · obtain rfl : xx = pw := by omega
    obtain ⟨e1, e2⟩ := mk.e yy hy
    simp -implicitDefEqProofs -dsimp (disch := omega) only [go_sem, Nat.reduceEqDiff, ↓reduceIte, Nat.reduceAdd, Nat.reduceMul, Nat.reduceSub, Nat.reduceLT, Nat.reduceLeDiff, Int.reduceLT, Int.reduceLE, Int.reduceEq, Int.reduceNeg, Int.reduceAdd, Int.reduceMul, Int.reduceSub, Int.reduceToNat, reduceCtorEq, dec_t, dec_f, burinlaw10_CompsApart_l4, c3]
    rw [hx, e2]
    rw [e1] at h1
    exact hK H1 _ h1
set_option maxHeartbeats 1000000 in
theorem ap_l3 (hp : HasRz P) {Q : Post} {t : Tag Q} {s : Tag burinlaw10_CompsApart_l3} {b q ob : Nat} {ov v rv : V} {last : Int} {W Ht i X Y pw ph : Nat} {pp : Nat → Nat → Bool} {T : List As} {g : Nat → Nat → Nat → Nat → Nat} {f : Nat → Nat → Int} (mk : MarkR W i X Y pw ph pp g f)
    (hXW : X + pw ≤ W) (hYH : Y + ph ≤ Ht) (hsm : Ht * W ≤ 1048576) (hW : W ≤ 1048576) (hH : Ht ≤ 1048576) (hi : i < 1048576) (m1 : BmA rv pw ph pp ∈ T) (m2 : Cel b [.int .i64 (W : Nat), .int .i64 (Ht : Nat), v] ∈ T) (m3 : Cel q [.int .i64 (X : Nat), .int .i64 (Y : Nat), .int .i64 (pw : Nat), .int .i64 (ph : Nat), rv] ∈ T)
    (hs : Hs H (Cel ob (grid W Ht (g 0 0)) :: T))
    (hK : ∀ H' ex, Hs H' (Cel ob (grid W Ht (g ph 0)) :: T) → Q (.exit 2) ⟨(1, .ptr (some (b, 0))) :: (3, ov) :: (5, .sl (some (ob, 0)) (Ht * W) (Ht * W) 1) :: (6, .int .i64 last) :: (7, .int .i64 (i : Nat)) :: (8, .ptr (some (q, 0))) :: (9, .int .i64 (f ph 0)) :: ex, []⟩ H') :
    loopL (Call P) [1, 3, 5, 6, 7, 8, 9, 10] burinlaw10_CompsApart_l3 Q t s ⟨[(1, .ptr (some (b, 0))), (3, ov), (5, .sl (some (ob, 0)) (Ht * W) (Ht * W) 1), (6, .int .i64 last), (7, .int .i64 (i : Nat)), (8, .ptr (some (q, 0))), (9, .int .i64 (f 0 0)), (10, .int .i64 ((0 : Nat) : Int))], []⟩ H := by
  refine loop_cnt ph (fun yy => ⟨[(1, .ptr (some (b, 0))), (3, ov), (5, .sl (some (ob, 0)) (Ht * W) (Ht * W) 1), (6, .int .i64 last), (7, .int .i64 (i : Nat)), (8, .ptr (some (q, 0))), (9, .int .i64 (f yy 0)), (10, .int .i64 (yy : Nat))], []⟩)
    (fun yy H => Hs H (Cel ob (grid W Ht (g yy 0)) :: T)) (fun yy H1 K hyy h1 hn hx hrr => ?_) 0 H (Nat.zero_le _) hs
  have c3 := rd_s (h1.tail.celm m3)
  by_cases hlt : yy < ph
  · simp -implicitDefEqProofs -dsimp (disch := omega) only [go_sem, Nat.reduceEqDiff, ↓reduceIte, Nat.reduceAdd, Nat.reduceMul, Nat.reduceSub, Nat.reduceLT, Nat.reduceLeDiff, Int.reduceLT, Int.reduceLE, Int.reduceEq, Int.reduceNeg, Int.reduceAdd, Int.reduceMul, Int.reduceSub, Int.reduceToNat, reduceCtorEq, dec_t, dec_f, burinlaw10_CompsApart_l3, c3]
    refine ap_l4 hp mk hlt hXW hYH hsm hW hH hi m1 m2 m3 h1 fun H2 ex h2 => ?_
    simp -implicitDefEqProofs -dsimp (disch := omega) only [go_sem, Nat.reduceEqDiff, ↓reduceIte, Nat.reduceAdd, Nat.reduceMul, Nat.reduceSub, Nat.reduceLT, Nat.reduceLeDiff, Int.reduceLT, Int.reduceLE, Int.reduceEq, Int.reduceNeg, Int.reduceAdd, Int.reduceMul, Int.reduceSub, Int.reduceToNat, reduceCtorEq, dec_t, dec_f, w64, cadd1]
    exact hn hlt H2 h2
  · obtain rfl : yy = ph := by omega
    simp -implicitDefEqProofs -dsimp (disch := omega) only [go_sem, Nat.reduceEqDiff, ↓reduceIte, Nat.reduceAdd, Nat.reduceMul, Nat.reduceSub, Nat.reduceLT, Nat.reduceLeDiff, Int.reduceLT, Int.reduceLE, Int.reduceEq, Int.reduceNeg, Int.reduceAdd, Int.reduceMul, Int.reduceSub, Int.reduceToNat, reduceCtorEq, dec_t, dec_f, burinlaw10_CompsApart_l3, c3]
    rw [hx]
    exact hK H1 _ h1
theorem Hs.stTail1 {A : As} {ov : V} {PR : List PcR} {T : List As} (h : Hs H (A :: StP ov PR T)) : Hs H (A :: T) := by
  have := Hs.perm (L' := (Lst ov 5 PR.length (pcCells PR) :: PR.map PcR.as) ++ (A :: T)) h (by
    classical
    refine List.perm_iff_count.2 fun x => ?_
    simp only [StP, List.count_append, List.count_cons]
    ac_rfl)
  exact this.cutl
set_option maxHeartbeats 1000000 in
theorem ap_l2 (hp : HasL10 P) {Q : Post} {t : Tag Q} {s : Tag burinlaw10_CompsApart_l2} {b ob : Nat} {ov v : V} {w h : Nat} {p : Nat → Nat → Bool} {PR : List PcR} {T : List As} (hPR : PR.map PcR.p = pcsOf p w h) (ha : h * w ≤ 1048576) (hw : w ≤ 1048576) (hh : h ≤ 1048576) (hlen : PR.length ≤ 1048576)
    (hs : Hs H (Cel ob (grid w h fun _ _ => 0) :: StP ov PR (Cel b [.int .i64 (w : Nat), .int .i64 (h : Nat), v] :: T)))
    (hK : ∀ H' ex, Hs H' (Cel ob (grid w h (ownN (pcsOf p w h) (pcsOf p w h).length)) :: Cel b [.int .i64 (w : Nat), .int .i64 (h : Nat), v] :: T) → Q (.exit 0) ⟨(1, .ptr (some (b, 0))) :: (3, ov) :: (5, .sl (some (ob, 0)) (h * w) (h * w) 1) :: ex, []⟩ H') :
    loopL (Call P) [1, 3, 5, 6, 7] burinlaw10_CompsApart_l2 Q t s ⟨[(1, .ptr (some (b, 0))), (3, ov), (5, .sl (some (ob, 0)) (h * w) (h * w) 1), (6, .int .i64 (-1)), (7, .int .i64 ((0 : Nat) : Int))], []⟩ H := by
  obtain ⟨pa, pc, pe, rfl⟩ := st_shape hs.tail
  have hPl : (pcsOf p w h).length = PR.length := by rw [← hPR, List.length_map]
  refine loop_cnt PR.length (fun i => ⟨[(1, .ptr (some (b, 0))), (3, .sl pa PR.length pc pe), (5, .sl (some (ob, 0)) (h * w) (h * w) 1), (6, .int .i64 (lastF p w h i)), (7, .int .i64 (i : Nat))], []⟩)
    (fun i H => Hs H (Cel ob (grid w h (ownN (pcsOf p w h) i)) :: StP (.sl pa PR.length pc pe) PR (Cel b [.int .i64 (w : Nat), .int .i64 (h : Nat), v] :: T))) (fun i H1 K hi h1 hn hx hrr => ?_) 0 H (Nat.zero_le _) hs
  by_cases hlt : i < PR.length
  · obtain ⟨xb, xo, xc, ev, q5, q1, q3⟩ := st_at h1.tail hlt
    cases ev
    have hm := List.getElem_mem hlt
    have hat : (pcsOf p w h)[i]? = some PR[i].p := by rw [← hPR, List.getElem?_map, List.getElem?_eq_getElem hlt]; rfl
    generalize PR[i] = r at q5 q1 q3 hm hat
    have hmp := List.mem_of_getElem? hat
    have k := pcs_in hmp
    have hmay := pcs_may hmp (by rw [Nat.mul_comm]; exact ha)
    have mk := marks hat
    have mk0 := marks_0 (p := p) (w := w) (h := h) (i := i) (P := r.p)
    have mkh := marks_h hat
    have f0 := fst_0 hat
    have fh := fst_h hat
    have fl := last_lt hat
    have hA : ∀ {A : List As} {H'}, Hs H' (A ++ StP (.sl (some (xb, xo)) PR.length pc 5) PR (Cel b [.int .i64 (w : Nat), .int .i64 (h : Nat), v] :: T)) → Arr H' r.v 1 (Wds r.p.w r.p.h r.p.p).length (u64s (Wds r.p.w r.p.h r.p.p)) := fun h' => Hs.bmarr h' (List.mem_append_right _ (st_bm hm))
    obtain ⟨va, vc, ve, hv⟩ := (hA (A := [_]) h1).shape
    obtain ⟨⟨x, y, pw, ph, pp⟩, rv⟩ := r
    dsimp only at hv hA hmay k hmp mk hat f0 fh fl mk0 mkh
    subst hv
    obtain ⟨k1, k2, k3, k4, k5, k6, k7⟩ := k
    dsimp only at k1 k2 k3 k4 k5 k6 k7
    obtain ⟨x, rfl⟩ : ∃ n : Nat, x = n := ⟨x.toNat, by omega⟩
    obtain ⟨y, rfl⟩ : ∃ n : Nat, y = n := ⟨y.toNat, by omega⟩
    rw [Int.toNat_natCast, Int.toNat_natCast] at mk
    have h2 := h1.alloc (l := PcO.cs (PcR.toO ⟨⟨x, y, pw, ph, pp⟩, .sl va (Wds pw ph pp).length vc ve⟩))
    have c2 := rd_m h2.cel 3 2
    rw [show (piece (PcO.cs (PcR.toO ⟨⟨x, y, pw, ph, pp⟩, .sl va (Wds pw ph pp).length vc ve⟩)) 2 3).map V.agg = some (.agg [.int .i64 (pw : Nat), .int .i64 (ph : Nat), .sl va (Wds pw ph pp).length vc ve]) from rfl] at c2
    simp -implicitDefEqProofs -dsimp (disch := omega) only [go_sem, Nat.reduceEqDiff, ↓reduceIte, Nat.reduceAdd, Nat.reduceMul, Nat.reduceSub, Nat.reduceLT, Nat.reduceLeDiff, Int.reduceLT, Int.reduceLE, Int.reduceEq, Int.reduceNeg, Int.reduceAdd, Int.reduceMul, Int.reduceSub, Int.reduceToNat, reduceCtorEq, dec_t, dec_f, burinlaw10_CompsApart_l2, Int.toNat_natCast, q5, PcO.cs, PcR.toO]
    simp only [PcO.cs, PcR.toO] at c2 h2
    simp -implicitDefEqProofs -dsimp (disch := omega) only [go_sem, Nat.reduceEqDiff, ↓reduceIte, Nat.reduceAdd, Nat.reduceMul, Nat.reduceSub, Nat.reduceLT, Nat.reduceLeDiff, Int.reduceLT, Int.reduceLE, Int.reduceEq, Int.reduceNeg, Int.reduceAdd, Int.reduceMul, Int.reduceSub, Int.reduceToNat, reduceCtorEq, dec_t, dec_f, c2]
    refine may_ct hp.rz h2 (hA (A := [_, _]) h2) (Wds_lt _ _ _) (by unfold i64r; omega) (by unfold i64r; omega) fun bb H3 hbb h3 _ => ?_
    rw [hbb.2 hmay]
    have d2 := rd_s h3.cel
    have d1 := rd_s (h3.celm (b := b) (l := [.int .i64 (w : Nat), .int .i64 (h : Nat), v]) (by simp [StP]))
    generalize H1.next = qb at *
    simp -implicitDefEqProofs -dsimp (disch := omega) only [go_sem, Nat.reduceEqDiff, ↓reduceIte, Nat.reduceAdd, Nat.reduceMul, Nat.reduceSub, Nat.reduceLT, Nat.reduceLeDiff, Int.reduceLT, Int.reduceLE, Int.reduceEq, Int.reduceNeg, Int.reduceAdd, Int.reduceMul, Int.reduceSub, Int.reduceToNat, reduceCtorEq, dec_t, dec_f, d1, d2, w64, d_gre]
    have h4 := h3.p1
    rw [← mk0] at h4
    rw [← f0]
    have hmb : BmA (.sl va (Wds pw ph pp).length vc ve) pw ph pp ∈ StP (.sl (some (xb, xo)) PR.length pc 5) PR (Cel b [.int .i64 (w : Nat), .int .i64 (h : Nat), v] :: T) := st_bm hm
    have hmc : Cel b [.int .i64 (w : Nat), .int .i64 (h : Nat), v] ∈ StP (.sl (some (xb, xo)) PR.length pc 5) PR (Cel b [.int .i64 (w : Nat), .int .i64 (h : Nat), v] :: T) := by simp [StP]
    generalize StP (.sl (some (xb, xo)) PR.length pc 5) PR (Cel b [.int .i64 (w : Nat), .int .i64 (h : Nat), v] :: T) = U at *
    refine ap_l3 (T := Cel qb [.int .i64 (x : Nat), .int .i64 (y : Nat), .int .i64 (pw : Nat), .int .i64 (ph : Nat), .sl va (Wds pw ph pp).length vc ve] :: U) hp.rz mk (by omega) (by omega) ha hw hh (by omega) (List.mem_cons_of_mem _ hmb) (List.mem_cons_of_mem _ hmc) (List.mem_cons_self ..) h4 fun H4 ex h5 => ?_
    rw [mkh] at h5
    rw [fh]
    simp -implicitDefEqProofs -dsimp (disch := omega) only [go_sem, Nat.reduceEqDiff, ↓reduceIte, Nat.reduceAdd, Nat.reduceMul, Nat.reduceSub, Nat.reduceLT, Nat.reduceLeDiff, Int.reduceLT, Int.reduceLE, Int.reduceEq, Int.reduceNeg, Int.reduceAdd, Int.reduceMul, Int.reduceSub, Int.reduceToNat, reduceCtorEq, dec_t, dec_f, w64, cadd1]
    exact hn hlt H4 h5.p1.tail
  · obtain rfl : i = PR.length := by omega
    rw [← hPl] at h1
    simp -implicitDefEqProofs -dsimp (disch := omega) only [go_sem, Nat.reduceEqDiff, ↓reduceIte, Nat.reduceAdd, Nat.reduceMul, Nat.reduceSub, Nat.reduceLT, Nat.reduceLeDiff, Int.reduceLT, Int.reduceLE, Int.reduceEq, Int.reduceNeg, Int.reduceAdd, Int.reduceMul, Int.reduceSub, Int.reduceToNat, reduceCtorEq, dec_t, dec_f, burinlaw10_CompsApart_l2]
    rw [hx]
    exact hK H1 _ h1.stTail1
set_option maxHeartbeats 1000000 in
theorem alike_ct (hl : P 195 = some burinlaw10_alike) {R : List As} {Q : Out → Heap → Prop} {ob w h x y k : Nat} {g : Nat → Nat → Nat} (hs : Hs H (Cel ob (grid w h g) :: R)) (hw : w ≤ 1048576) (hh : h ≤ 1048576) (hsm : h * w ≤ 1048576) (hx : x < w) (hy : y < h)
    (hk : ∀ i, i < w → i ≤ x + 1 → x ≤ i + 1 → 0 < g i y → g i y = k) (hQ : Q (.ret (.bool true)) H) :
    Call P 195 [.sl (some (ob, 0)) (h * w) (h * w) 1, .int .i64 (w : Nat), .int .i64 (x : Nat), .int .i64 (y : Nat), .int .i64 (k : Nat)] H Q := by
  refine call_of hl rfl ?_
  simp -implicitDefEqProofs -dsimp (disch := omega) only [go_sem, Nat.reduceEqDiff, ↓reduceIte, Nat.reduceAdd, Nat.reduceMul, Nat.reduceSub, Nat.reduceLT, Nat.reduceLeDiff, Int.reduceLT, Int.reduceLE, Int.reduceEq, Int.reduceNeg, Int.reduceAdd, Int.reduceMul, Int.reduceSub, Int.reduceToNat, reduceCtorEq, dec_t, dec_f, w64]
  rw [show (x : Int) - 1 = (x : Int) - 1 + ((0 : Nat) : Int) by omega]
  refine loop_cnt 3 (fun i => ⟨[(0, .sl (some (ob, 0)) (h * w) (h * w) 1), (1, .int .i64 (w : Nat)), (2, .int .i64 (x : Nat)), (3, .int .i64 (y : Nat)), (4, .int .i64 (k : Nat)), (11, .int .i64 ((x : Int) - 1 + (i : Nat)))], []⟩)
    (fun i H1 => H1 = H) (fun i H1 K hi h1 hn hx' hrr => ?_) 0 H (Nat.zero_le _) rfl
  subst h1
  have en : (x : Int) - 1 + (i : Nat) + 1 = (x : Int) - 1 + ((i + 1 : Nat) : Int) := by omega
  by_cases hlt : i < 3
  · by_cases hin : 0 ≤ (x : Int) - 1 + (i : Nat) ∧ (x : Int) - 1 + (i : Nat) < (w : Nat)
    · obtain ⟨z, hz⟩ : ∃ z : Nat, (x : Int) - 1 + (i : Nat) = z := ⟨((x : Int) - 1 + (i : Nat)).toNat, by omega⟩
      rw [hz] at en hin
      have hix := gix_lt (w := w) (h := h) (x := z) (y := y) (by omega) hy
      have hr := rd_s hs.cel (y * w + z)
      rw [grid_at _ (by omega) hy] at hr
      have eA : ((y : Nat) : Int) * ((w : Nat) : Int) = ((y * w : Nat) : Int) := (Int.natCast_mul _ _).symm
      have eB : ((y * w : Nat) : Int) + ((z : Nat) : Int) = ((y * w + z : Nat) : Int) := by omega
      have hk := hk z (by omega) (by omega) (by omega)
      rw [hz]
      by_cases c : 0 < g z y
      · have hk := hk c
        simp -implicitDefEqProofs -dsimp (disch := omega) only [go_sem, Nat.reduceEqDiff, ↓reduceIte, Nat.reduceAdd, Nat.reduceMul, Nat.reduceSub, Nat.reduceLT, Nat.reduceLeDiff, Int.reduceLT, Int.reduceLE, Int.reduceEq, Int.reduceNeg, Int.reduceAdd, Int.reduceMul, Int.reduceSub, Int.reduceToNat, reduceCtorEq, dec_t, dec_f, burinlaw10_alike_l0, w64, eA, eB, Int.toNat_natCast, Nat.mul_one, hr, hk, en]
        exact hn hlt H1 rfl
      · simp -implicitDefEqProofs -dsimp (disch := omega) only [go_sem, Nat.reduceEqDiff, ↓reduceIte, Nat.reduceAdd, Nat.reduceMul, Nat.reduceSub, Nat.reduceLT, Nat.reduceLeDiff, Int.reduceLT, Int.reduceLE, Int.reduceEq, Int.reduceNeg, Int.reduceAdd, Int.reduceMul, Int.reduceSub, Int.reduceToNat, reduceCtorEq, dec_t, dec_f, burinlaw10_alike_l0, w64, eA, eB, Int.toNat_natCast, Nat.mul_one, hr, en]
        exact hn hlt H1 rfl
    · by_cases c : 0 ≤ (x : Int) - 1 + (i : Nat)
      · simp -implicitDefEqProofs -dsimp (disch := omega) only [go_sem, Nat.reduceEqDiff, ↓reduceIte, Nat.reduceAdd, Nat.reduceMul, Nat.reduceSub, Nat.reduceLT, Nat.reduceLeDiff, Int.reduceLT, Int.reduceLE, Int.reduceEq, Int.reduceNeg, Int.reduceAdd, Int.reduceMul, Int.reduceSub, Int.reduceToNat, reduceCtorEq, dec_t, dec_f, burinlaw10_alike_l0, w64, en]
        exact hn hlt H1 rfl
      · simp -implicitDefEqProofs -dsimp (disch := omega) only [go_sem, Nat.reduceEqDiff, ↓reduceIte, Nat.reduceAdd, Nat.reduceMul, Nat.reduceSub, Nat.reduceLT, Nat.reduceLeDiff, Int.reduceLT, Int.reduceLE, Int.reduceEq, Int.reduceNeg, Int.reduceAdd, Int.reduceMul, Int.reduceSub, Int.reduceToNat, reduceCtorEq, dec_t, dec_f, burinlaw10_alike_l0, w64, en]
        exact hn hlt H1 rfl
  · obtain rfl : i = 3 := by omega
    simp -implicitDefEqProofs -dsimp (disch := omega) only [go_sem, Nat.reduceEqDiff, ↓reduceIte, Nat.reduceAdd, Nat.reduceMul, Nat.reduceSub, Nat.reduceLT, Nat.reduceLeDiff, Int.reduceLT, Int.reduceLE, Int.reduceEq, Int.reduceNeg, Int.reduceAdd, Int.reduceMul, Int.reduceSub, Int.reduceToNat, reduceCtorEq, dec_t, dec_f, burinlaw10_alike_l0, w64]
    rw [hx']
    simp -implicitDefEqProofs -dsimp (disch := omega) only [go_sem, Nat.reduceEqDiff, ↓reduceIte, Nat.reduceAdd, Nat.reduceMul, Nat.reduceSub, Nat.reduceLT, Nat.reduceLeDiff, Int.reduceLT, Int.reduceLE, Int.reduceEq, Int.reduceNeg, Int.reduceAdd, Int.reduceMul, Int.reduceSub, Int.reduceToNat, reduceCtorEq, dec_t, dec_f, ]
    exact hQ
set_option maxRecDepth 20000 in
set_option maxHeartbeats 1000000 in
theorem ap_l1 (hq : HasL2 P) (hl : P 195 = some burinlaw10_alike) (k : BmOk H0 o) (mm : BmM o) {Q : Post} {t : Tag Q} {s : Tag burinlaw10_CompsApart_l1} {b ob y : Nat} {T : List As} {g : Nat → Nat → Nat} (hb : Bas H0 ∈ T) (hcb : Cel b [.int .i64 (o.wn : Nat), .int .i64 (o.hn : Nat), o.v] ∈ T) (hsm : o.hn * o.wn ≤ 1048576)
    (hw : o.wn ≤ 1048576) (hh : o.hn ≤ 1048576) (hy : y < o.hn) (hg1 : ∀ x y, x < o.wn → y < o.hn → (0 < g x y ↔ o.px x y = true)) (hg2 : ∀ x y x' y', x < o.wn → y < o.hn → x' < o.wn → y' < o.hn → nb x y x' y' → 0 < g x y → 0 < g x' y' → g x' y' = g x y)
    (hs : Hs H (Cel ob (grid o.wn o.hn g) :: T))
    (hK : ∀ H' ex, Hs H' (Cel ob (grid o.wn o.hn g) :: T) → Q (.exit 8) ⟨(1, .ptr (some (b, 0))) :: (5, .sl (some (ob, 0)) (o.hn * o.wn) (o.hn * o.wn) 1) :: (13, .int .i64 (y : Nat)) :: ex, []⟩ H') :
    loopL (Call P) [1, 5, 13, 14] burinlaw10_CompsApart_l1 Q t s ⟨[(1, .ptr (some (b, 0))), (5, .sl (some (ob, 0)) (o.hn * o.wn) (o.hn * o.wn) 1), (13, .int .i64 (y : Nat)), (14, .int .i64 ((0 : Nat) : Int))], []⟩ H := by
  refine loop_cnt o.wn (fun x => ⟨[(1, .ptr (some (b, 0))), (5, .sl (some (ob, 0)) (o.hn * o.wn) (o.hn * o.wn) 1), (13, .int .i64 (y : Nat)), (14, .int .i64 (x : Nat))], []⟩)
    (fun x H => Hs H (Cel ob (grid o.wn o.hn g) :: T)) (fun x H1 K hi h1 hn hx hrr => ?_) 0 H (Nat.zero_le _) hs
  have c2 := rd_s (h1.tail.celm hcb)
  have c3 := rd_bm h1.tail hcb 3 rfl
  by_cases hlt : x < o.wn
  · have rdg : ∀ {H' : Heap} {x' y' : Nat}, Hs H' (Cel ob (grid o.wn o.hn g) :: T) → x' < o.wn → y' < o.hn → rd H' none ob (y' * o.wn + x') = some (.int .i64 ((g x' y' : Nat) : Int)) := fun h' hx' hy' => by
      rw [rd_s h'.cel]; exact grid_at _ hx' hy'
    have eA : ((y : Nat) : Int) * ((o.wn : Nat) : Int) = ((y * o.wn : Nat) : Int) := (Int.natCast_mul _ _).symm
    have eB : ((y * o.wn : Nat) : Int) + ((x : Nat) : Int) = ((y * o.wn + x : Nat) : Int) := by omega
    have hix := gix_lt (w := o.wn) (h := o.hn) hlt hy
    have r1 := rdg h1 hlt hy
    simp -implicitDefEqProofs -dsimp (disch := omega) only [go_sem, Nat.reduceEqDiff, ↓reduceIte, Nat.reduceAdd, Nat.reduceMul, Nat.reduceSub, Nat.reduceLT, Nat.reduceLeDiff, Int.reduceLT, Int.reduceLE, Int.reduceEq, Int.reduceNeg, Int.reduceAdd, Int.reduceMul, Int.reduceSub, Int.reduceToNat, reduceCtorEq, dec_t, dec_f, burinlaw10_CompsApart_l1, c2, c3, w64, eA, eB, Int.toNat_natCast, Nat.mul_one, r1]
    rw [← mm.w, ← mm.h]
    refine getO hq k mm h1 (List.mem_cons_of_mem _ hb) fun H2 h2 => ?_
    rw [show getV o.wn o.hn o.px x y = (o.px x y).toNat by unfold getV; rw [if_pos (by omega), Int.toNat_natCast, Int.toNat_natCast]]
    have c2 := rd_s (h2.tail.celm hcb)
    have k1 := hg1 x y hlt hy
    cases hp : o.px x y with
    | false =>
      have e0 : g x y = 0 := by rw [hp] at k1; simp at k1; exact k1
      rw [e0]
      simp -implicitDefEqProofs -dsimp (disch := omega) only [go_sem, Nat.reduceEqDiff, ↓reduceIte, Nat.reduceAdd, Nat.reduceMul, Nat.reduceSub, Nat.reduceLT, Nat.reduceLeDiff, Int.reduceLT, Int.reduceLE, Int.reduceEq, Int.reduceNeg, Int.reduceAdd, Int.reduceMul, Int.reduceSub, Int.reduceToNat, reduceCtorEq, dec_t, dec_f, Bool.toNat_false, w64, cadd1, show ((0 : Nat) : Int) = 0 from rfl, beq_self_eq_true, bne_self_eq_false]
      exact hn hlt H2 h2
    | true =>
      have e1 : 0 < g x y := k1.2 hp
      have lk : ∀ H3, Hs H3 (Cel ob (grid o.wn o.hn g) :: T) → 0 < y → Call P 195 [.sl (some (ob, 0)) (o.hn * o.wn) (o.hn * o.wn) 1, .int .i64 (o.wn : Nat), .int .i64 (x : Nat), .int .i64 ((y - 1 : Nat) : Int), .int .i64 (g x y : Nat)] H3 fun out H' => out = .ret (.bool true) ∧ H' = H3 := fun H3 h3 hy0 =>
        alike_ct hl h3 hw hh hsm hlt (by omega) (fun i a1 a2 a3 a4 => hg2 x y i (y - 1) hlt hy a1 (by omega) ⟨by omega, by omega, by omega, by omega⟩ e1 a4) ⟨rfl, rfl⟩
      have eC : 0 < y → ((y : Nat) : Int) - 1 = ((y - 1 : Nat) : Int) := fun _ => by omega
      have fin : ∀ H3, Hs H3 (Cel ob (grid o.wn o.hn g) :: T) → K .normal ⟨[(1, .ptr (some (b, 0))), (5, .sl (some (ob, 0)) (o.hn * o.wn) (o.hn * o.wn) 1), (13, .int .i64 (y : Nat)), (14, .int .i64 ((x + 1 : Nat) : Int))], []⟩ H3 := fun H3 h3 => hn hlt H3 h3
      by_cases x0 : 0 < x
      · have r2 := rdg h2 (x' := x - 1) (y' := y) (by omega) hy
        have k2 := hg2 x y (x - 1) y hlt hy (by omega) hy ⟨by omega, by omega, by omega, by omega⟩ e1
        have eD : ((y * o.wn + x : Nat) : Int) - 1 = ((y * o.wn + (x - 1) : Nat) : Int) := by omega
        by_cases gp : 0 < g (x - 1) y
        · have k2 := k2 gp
          by_cases y0 : 0 < y
          · have eC := eC y0
            simp -implicitDefEqProofs -dsimp (disch := omega) only [go_sem, Nat.reduceEqDiff, ↓reduceIte, Nat.reduceAdd, Nat.reduceMul, Nat.reduceSub, Nat.reduceLT, Nat.reduceLeDiff, Int.reduceLT, Int.reduceLE, Int.reduceEq, Int.reduceNeg, Int.reduceAdd, Int.reduceMul, Int.reduceSub, Int.reduceToNat, reduceCtorEq, dec_t, dec_f, Bool.toNat_true, w64, cadd1, c2, eA, eB, eC, eD, Int.toNat_natCast, Nat.mul_one, r2, k2, show ((1 : Nat) : Int) = 1 from rfl, beq_self_eq_true, bne_self_eq_false]
            refine callL_of (lk H2 h2 y0) fun out H3 ⟨e3, e4⟩ => ?_
            subst e3 e4
            simp -implicitDefEqProofs -dsimp (disch := omega) only [go_sem, Nat.reduceEqDiff, ↓reduceIte, Nat.reduceAdd, Nat.reduceMul, Nat.reduceSub, Nat.reduceLT, Nat.reduceLeDiff, Int.reduceLT, Int.reduceLE, Int.reduceEq, Int.reduceNeg, Int.reduceAdd, Int.reduceMul, Int.reduceSub, Int.reduceToNat, reduceCtorEq, dec_t, dec_f, w64, cadd1]
            exact fin H3 h2
          · simp -implicitDefEqProofs -dsimp (disch := omega) only [go_sem, Nat.reduceEqDiff, ↓reduceIte, Nat.reduceAdd, Nat.reduceMul, Nat.reduceSub, Nat.reduceLT, Nat.reduceLeDiff, Int.reduceLT, Int.reduceLE, Int.reduceEq, Int.reduceNeg, Int.reduceAdd, Int.reduceMul, Int.reduceSub, Int.reduceToNat, reduceCtorEq, dec_t, dec_f, Bool.toNat_true, w64, cadd1, c2, eA, eB, eD, Int.toNat_natCast, Nat.mul_one, r2, k2, show ((1 : Nat) : Int) = 1 from rfl, beq_self_eq_true, bne_self_eq_false]
            exact fin H2 h2
        · by_cases y0 : 0 < y
          · have eC := eC y0
            simp -implicitDefEqProofs -dsimp (disch := omega) only [go_sem, Nat.reduceEqDiff, ↓reduceIte, Nat.reduceAdd, Nat.reduceMul, Nat.reduceSub, Nat.reduceLT, Nat.reduceLeDiff, Int.reduceLT, Int.reduceLE, Int.reduceEq, Int.reduceNeg, Int.reduceAdd, Int.reduceMul, Int.reduceSub, Int.reduceToNat, reduceCtorEq, dec_t, dec_f, Bool.toNat_true, w64, cadd1, c2, eA, eB, eC, eD, Int.toNat_natCast, Nat.mul_one, r2, show ((1 : Nat) : Int) = 1 from rfl, beq_self_eq_true, bne_self_eq_false]
            refine callL_of (lk H2 h2 y0) fun out H3 ⟨e3, e4⟩ => ?_
            subst e3 e4
            simp -implicitDefEqProofs -dsimp (disch := omega) only [go_sem, Nat.reduceEqDiff, ↓reduceIte, Nat.reduceAdd, Nat.reduceMul, Nat.reduceSub, Nat.reduceLT, Nat.reduceLeDiff, Int.reduceLT, Int.reduceLE, Int.reduceEq, Int.reduceNeg, Int.reduceAdd, Int.reduceMul, Int.reduceSub, Int.reduceToNat, reduceCtorEq, dec_t, dec_f, w64, cadd1]
            exact fin H3 h2
          · simp -implicitDefEqProofs -dsimp (disch := omega) only [go_sem, Nat.reduceEqDiff, ↓reduceIte, Nat.reduceAdd, Nat.reduceMul, Nat.reduceSub, Nat.reduceLT, Nat.reduceLeDiff, Int.reduceLT, Int.reduceLE, Int.reduceEq, Int.reduceNeg, Int.reduceAdd, Int.reduceMul, Int.reduceSub, Int.reduceToNat, reduceCtorEq, dec_t, dec_f, Bool.toNat_true, w64, cadd1, c2, eA, eB, eD, Int.toNat_natCast, Nat.mul_one, r2, show ((1 : Nat) : Int) = 1 from rfl, beq_self_eq_true, bne_self_eq_false]
            exact fin H2 h2
      · by_cases y0 : 0 < y
        · have eC := eC y0
          simp -implicitDefEqProofs -dsimp (disch := omega) only [go_sem, Nat.reduceEqDiff, ↓reduceIte, Nat.reduceAdd, Nat.reduceMul, Nat.reduceSub, Nat.reduceLT, Nat.reduceLeDiff, Int.reduceLT, Int.reduceLE, Int.reduceEq, Int.reduceNeg, Int.reduceAdd, Int.reduceMul, Int.reduceSub, Int.reduceToNat, reduceCtorEq, dec_t, dec_f, Bool.toNat_true, w64, cadd1, c2, eA, eB, eC, Int.toNat_natCast, Nat.mul_one, show ((1 : Nat) : Int) = 1 from rfl, beq_self_eq_true, bne_self_eq_false]
          refine callL_of (lk H2 h2 y0) fun out H3 ⟨e3, e4⟩ => ?_
          subst e3 e4
          simp -implicitDefEqProofs -dsimp (disch := omega) only [go_sem, Nat.reduceEqDiff, ↓reduceIte, Nat.reduceAdd, Nat.reduceMul, Nat.reduceSub, Nat.reduceLT, Nat.reduceLeDiff, Int.reduceLT, Int.reduceLE, Int.reduceEq, Int.reduceNeg, Int.reduceAdd, Int.reduceMul, Int.reduceSub, Int.reduceToNat, reduceCtorEq, dec_t, dec_f, w64, cadd1]
          exact fin H3 h2
        · simp -implicitDefEqProofs -dsimp (disch := omega) only [go_sem, Nat.reduceEqDiff, ↓reduceIte, Nat.reduceAdd, Nat.reduceMul, Nat.reduceSub, Nat.reduceLT, Nat.reduceLeDiff, Int.reduceLT, Int.reduceLE, Int.reduceEq, Int.reduceNeg, Int.reduceAdd, Int.reduceMul, Int.reduceSub, Int.reduceToNat, reduceCtorEq, dec_t, dec_f, Bool.toNat_true, w64, cadd1, c2, eA, eB, Int.toNat_natCast, Nat.mul_one, show ((1 : Nat) : Int) = 1 from rfl, beq_self_eq_true, bne_self_eq_false]
          exact fin H2 h2
  · obtain rfl : x = o.wn := by omega
    simp -implicitDefEqProofs -dsimp (disch := omega) only [go_sem, Nat.reduceEqDiff, ↓reduceIte, Nat.reduceAdd, Nat.reduceMul, Nat.reduceSub, Nat.reduceLT, Nat.reduceLeDiff, Int.reduceLT, Int.reduceLE, Int.reduceEq, Int.reduceNeg, Int.reduceAdd, Int.reduceMul, Int.reduceSub, Int.reduceToNat, reduceCtorEq, dec_t, dec_f, burinlaw10_CompsApart_l1, c2]
    rw [hx]
    exact hK H1 _ h1
set_option maxHeartbeats 1000000 in
theorem ap_l0 (hq : HasL2 P) (hl : P 195 = some burinlaw10_alike) (k : BmOk H0 o) (mm : BmM o) {Q : Post} {t : Tag Q} {s : Tag burinlaw10_CompsApart_l0} {b ob : Nat} {T : List As} {g : Nat → Nat → Nat} (hb : Bas H0 ∈ T) (hcb : Cel b [.int .i64 (o.wn : Nat), .int .i64 (o.hn : Nat), o.v] ∈ T) (hsm : o.hn * o.wn ≤ 1048576)
    (hw : o.wn ≤ 1048576) (hh : o.hn ≤ 1048576) (hg1 : ∀ x y, x < o.wn → y < o.hn → (0 < g x y ↔ o.px x y = true)) (hg2 : ∀ x y x' y', x < o.wn → y < o.hn → x' < o.wn → y' < o.hn → nb x y x' y' → 0 < g x y → 0 < g x' y' → g x' y' = g x y)
    (hs : Hs H (Cel ob (grid o.wn o.hn g) :: T))
    (hK : ∀ H' ex, Hs H' (Cel ob (grid o.wn o.hn g) :: T) → Q (.exit 6) ⟨(1, .ptr (some (b, 0))) :: ex, []⟩ H') :
    loopL (Call P) [1, 5, 13] burinlaw10_CompsApart_l0 Q t s ⟨[(1, .ptr (some (b, 0))), (5, .sl (some (ob, 0)) (o.hn * o.wn) (o.hn * o.wn) 1), (13, .int .i64 ((0 : Nat) : Int))], []⟩ H := by
  refine loop_cnt o.hn (fun y => ⟨[(1, .ptr (some (b, 0))), (5, .sl (some (ob, 0)) (o.hn * o.wn) (o.hn * o.wn) 1), (13, .int .i64 (y : Nat))], []⟩)
    (fun y H => Hs H (Cel ob (grid o.wn o.hn g) :: T)) (fun y H1 K hi h1 hn hx hrr => ?_) 0 H (Nat.zero_le _) hs
  have c2 := rd_s (h1.tail.celm hcb)
  by_cases hlt : y < o.hn
  · simp -implicitDefEqProofs -dsimp (disch := omega) only [go_sem, Nat.reduceEqDiff, ↓reduceIte, Nat.reduceAdd, Nat.reduceMul, Nat.reduceSub, Nat.reduceLT, Nat.reduceLeDiff, Int.reduceLT, Int.reduceLE, Int.reduceEq, Int.reduceNeg, Int.reduceAdd, Int.reduceMul, Int.reduceSub, Int.reduceToNat, reduceCtorEq, dec_t, dec_f, burinlaw10_CompsApart_l0, c2]
    refine ap_l1 hq hl k mm hb hcb hsm hw hh hlt hg1 hg2 h1 fun H2 ex h2 => ?_
    simp -implicitDefEqProofs -dsimp (disch := omega) only [go_sem, Nat.reduceEqDiff, ↓reduceIte, Nat.reduceAdd, Nat.reduceMul, Nat.reduceSub, Nat.reduceLT, Nat.reduceLeDiff, Int.reduceLT, Int.reduceLE, Int.reduceEq, Int.reduceNeg, Int.reduceAdd, Int.reduceMul, Int.reduceSub, Int.reduceToNat, reduceCtorEq, dec_t, dec_f, w64, cadd1]
    exact hn hlt H2 h2
  · obtain rfl : y = o.hn := by omega
    simp -implicitDefEqProofs -dsimp (disch := omega) only [go_sem, Nat.reduceEqDiff, ↓reduceIte, Nat.reduceAdd, Nat.reduceMul, Nat.reduceSub, Nat.reduceLT, Nat.reduceLeDiff, Int.reduceLT, Int.reduceLE, Int.reduceEq, Int.reduceNeg, Int.reduceAdd, Int.reduceMul, Int.reduceSub, Int.reduceToNat, reduceCtorEq, dec_t, dec_f, burinlaw10_CompsApart_l0, c2]
    rw [hx]
    exact hK H1 _ h1
set_option maxHeartbeats 1000000 in
theorem compsApart (hp : HasL10 P) (hq : HasL2 P) (hl : HasL10Apart P) (k : BmOk H o) : Call P 196 [.agg [.int .i64 o.w, .int .i64 o.h, o.v]] H fun o _ => o = .ret (.bool true) := by
  refine call_of hl.h_burinlaw10_CompsApart rfl ?_
  have h1 := (Hs.start H).alloc (l := [.int .i64 o.w, .int .i64 o.h, o.v])
  have r1 := rd_bm h1 (List.mem_cons_self ..) 3 rfl
  simp -implicitDefEqProofs -dsimp (disch := omega) only [go_sem, Nat.reduceEqDiff, ↓reduceIte, Nat.reduceAdd, Nat.reduceMul, Nat.reduceSub, Nat.reduceLT, Nat.reduceLeDiff, Int.reduceLT, Int.reduceLE, Int.reduceEq, Int.reduceNeg, Int.reduceAdd, Int.reduceMul, Int.reduceSub, Int.reduceToNat, reduceCtorEq, dec_t, dec_f, ]
  generalize H.new _ = H1 at *
  generalize H.next = b at *
  simp -implicitDefEqProofs -dsimp (disch := omega) only [go_sem, Nat.reduceEqDiff, ↓reduceIte, Nat.reduceAdd, Nat.reduceMul, Nat.reduceSub, Nat.reduceLT, Nat.reduceLeDiff, Int.reduceLT, Int.reduceLE, Int.reduceEq, Int.reduceNeg, Int.reduceAdd, Int.reduceMul, Int.reduceSub, Int.reduceToNat, reduceCtorEq, dec_t, dec_f, r1]
  refine mayO9 hp k h1 (by simp) fun mb H2 hm h2 => ?_
  cases mb with
  | false =>
    simp -implicitDefEqProofs -dsimp (disch := omega) only [go_sem, Nat.reduceEqDiff, ↓reduceIte, Nat.reduceAdd, Nat.reduceMul, Nat.reduceSub, Nat.reduceLT, Nat.reduceLeDiff, Int.reduceLT, Int.reduceLE, Int.reduceEq, Int.reduceNeg, Int.reduceAdd, Int.reduceMul, Int.reduceSub, Int.reduceToNat, reduceCtorEq, dec_t, dec_f, ]
    refine wakes10_ct hp.bm hp.rz hp.ru hp.co hp.w h2 fun H3 h3 => ?_
    simp -implicitDefEqProofs -dsimp (disch := omega) only [go_sem, Nat.reduceEqDiff, ↓reduceIte, Nat.reduceAdd, Nat.reduceMul, Nat.reduceSub, Nat.reduceLT, Nat.reduceLeDiff, Int.reduceLT, Int.reduceLE, Int.reduceEq, Int.reduceNeg, Int.reduceAdd, Int.reduceMul, Int.reduceSub, Int.reduceToNat, reduceCtorEq, dec_t, dec_f, ]
  | true =>
  have may := hm.1 rfl
  have mm := bmM_of k may
  obtain ⟨le1, le2⟩ := BmM.le mm
  have hc := rd_bm h2 (List.mem_cons_self ..) 3 rfl
  have hcs := rd_s h2.cel
  have em : o.w * o.h = ((o.hn * o.wn : Nat) : Int) := by rw [mm.w, mm.h, ← Int.natCast_mul, Nat.mul_comm]
  have ha : o.hn * o.wn ≤ 1048576 := by rw [Nat.mul_comm]; exact mm.area
  by_cases big : o.hn * o.wn > 3000
  · simp -implicitDefEqProofs -dsimp (disch := omega) only [go_sem, Nat.reduceEqDiff, ↓reduceIte, Nat.reduceAdd, Nat.reduceMul, Nat.reduceSub, Nat.reduceLT, Nat.reduceLeDiff, Int.reduceLT, Int.reduceLE, Int.reduceEq, Int.reduceNeg, Int.reduceAdd, Int.reduceMul, Int.reduceSub, Int.reduceToNat, reduceCtorEq, dec_t, dec_f, hcs, w64, em]
    refine wakes10_ct hp.bm hp.rz hp.ru hp.co hp.w h2 fun H3 h3 => ?_
    simp -implicitDefEqProofs -dsimp (disch := omega) only [go_sem, Nat.reduceEqDiff, ↓reduceIte, Nat.reduceAdd, Nat.reduceMul, Nat.reduceSub, Nat.reduceLT, Nat.reduceLeDiff, Int.reduceLT, Int.reduceLE, Int.reduceEq, Int.reduceNeg, Int.reduceAdd, Int.reduceMul, Int.reduceSub, Int.reduceToNat, reduceCtorEq, dec_t, dec_f, ]
  have h3 := h2.alloc (l := [.int .i64 o.w, .int .i64 o.h, o.v])
  simp -implicitDefEqProofs -dsimp (disch := omega) only [go_sem, Nat.reduceEqDiff, ↓reduceIte, Nat.reduceAdd, Nat.reduceMul, Nat.reduceSub, Nat.reduceLT, Nat.reduceLeDiff, Int.reduceLT, Int.reduceLE, Int.reduceEq, Int.reduceNeg, Int.reduceAdd, Int.reduceMul, Int.reduceSub, Int.reduceToNat, reduceCtorEq, dec_t, dec_f, hc, hcs, w64, em]
  generalize H2.new _ = H3 at *
  generalize H2.next = bx at *
  refine small9 hq k h3.cel ?_
  have h4 := h3.tail
  have c4 := rd_bm h4 (List.mem_cons_self ..) 3 rfl
  by_cases hsm : 64 * o.ws.length + 64 ≤ 20000
  rotate_left
  · rw [decide_eq_false hsm]
    simp -implicitDefEqProofs -dsimp (disch := omega) only [go_sem, Nat.reduceEqDiff, ↓reduceIte, Nat.reduceAdd, Nat.reduceMul, Nat.reduceSub, Nat.reduceLT, Nat.reduceLeDiff, Int.reduceLT, Int.reduceLE, Int.reduceEq, Int.reduceNeg, Int.reduceAdd, Int.reduceMul, Int.reduceSub, Int.reduceToNat, reduceCtorEq, dec_t, dec_f, ]
    refine wakes10_ct hp.bm hp.rz hp.ru hp.co hp.w h4 fun H3 h3 => ?_
    simp -implicitDefEqProofs -dsimp (disch := omega) only [go_sem, Nat.reduceEqDiff, ↓reduceIte, Nat.reduceAdd, Nat.reduceMul, Nat.reduceSub, Nat.reduceLT, Nat.reduceLeDiff, Int.reduceLT, Int.reduceLE, Int.reduceEq, Int.reduceNeg, Int.reduceAdd, Int.reduceMul, Int.reduceSub, Int.reduceToNat, reduceCtorEq, dec_t, dec_f, ]
  rw [decide_eq_true hsm]
  simp -implicitDefEqProofs -dsimp (disch := omega) only [go_sem, Nat.reduceEqDiff, ↓reduceIte, Nat.reduceAdd, Nat.reduceMul, Nat.reduceSub, Nat.reduceLT, Nat.reduceLeDiff, Int.reduceLT, Int.reduceLE, Int.reduceEq, Int.reduceNeg, Int.reduceAdd, Int.reduceMul, Int.reduceSub, Int.reduceToNat, reduceCtorEq, dec_t, dec_f, c4]
  refine ofO hp k may h4 (by simp) fun ov PR H5 hPR h5 => ?_
  have hlen : PR.length ≤ 1048576 := by
    have e1 := congrArg List.length hPR
    rw [List.length_map] at e1
    have e2 := pcs_len (p := o.px) (w := o.wn) (h := o.hn)
    have e3 := cnt2_le o.wn o.px o.hn
    omega
  have c5 := rd_s (h5.stTail.cel)
  obtain ⟨pa, pc, pe, rfl⟩ := st_shape h5
  have h6 := h5.alloc (l := grid o.wn o.hn fun _ _ => 0)
  simp -implicitDefEqProofs -dsimp (disch := omega) only [go_sem, Nat.reduceEqDiff, ↓reduceIte, Nat.reduceAdd, Nat.reduceMul, Nat.reduceSub, Nat.reduceLT, Nat.reduceLeDiff, Int.reduceLT, Int.reduceLE, Int.reduceEq, Int.reduceNeg, Int.reduceAdd, Int.reduceMul, Int.reduceSub, Int.reduceToNat, reduceCtorEq, dec_t, dec_f, c5, w64, em, Int.toNat_natCast, reps_grid]
  generalize H5.new _ = H6 at *
  generalize H5.next = ob at *
  rw [mm.w, mm.h] at h6
  refine ap_l2 hp hPR ha le1 le2 hlen h6 fun H7 ex h7 => ?_
  simp -implicitDefEqProofs -dsimp (disch := omega) only [go_sem, Nat.reduceEqDiff, ↓reduceIte, Nat.reduceAdd, Nat.reduceMul, Nat.reduceSub, Nat.reduceLT, Nat.reduceLeDiff, Int.reduceLT, Int.reduceLE, Int.reduceEq, Int.reduceNeg, Int.reduceAdd, Int.reduceMul, Int.reduceSub, Int.reduceToNat, reduceCtorEq, dec_t, dec_f, ]
  have oe := fun x y hx hy => own_end (p := o.px) (w := o.wn) (h := o.hn) (x := x) (y := y) hx hy
  refine ap_l0 hq hl.h_burinlaw10_alike k mm (T := [Cel b [.int .i64 (o.wn : Nat), .int .i64 (o.hn : Nat), o.v], Bas H]) (by simp) (by simp) ha le1 le2 (fun x y hx hy => (oe x y hx hy).1) (fun x y x' y' hx hy hx' hy' hn g1 g2 => (oe x y hx hy).2 x' y' hx' hy' hn g1 g2) h7 fun H8 ex h8 => ?_
  simp -implicitDefEqProofs -dsimp (disch := omega) only [go_sem, Nat.reduceEqDiff, ↓reduceIte, Nat.reduceAdd, Nat.reduceMul, Nat.reduceSub, Nat.reduceLT, Nat.reduceLeDiff, Int.reduceLT, Int.reduceLE, Int.reduceEq, Int.reduceNeg, Int.reduceAdd, Int.reduceMul, Int.reduceSub, Int.reduceToNat, reduceCtorEq, dec_t, dec_f, ]
  refine wakes10_ct hp.bm hp.rz hp.ru hp.co hp.w h8 fun H3 h3 => ?_
  simp -implicitDefEqProofs -dsimp (disch := omega) only [go_sem, Nat.reduceEqDiff, ↓reduceIte, Nat.reduceAdd, Nat.reduceMul, Nat.reduceSub, Nat.reduceLT, Nat.reduceLeDiff, Int.reduceLT, Int.reduceLE, Int.reduceEq, Int.reduceNeg, Int.reduceAdd, Int.reduceMul, Int.reduceSub, Int.reduceToNat, reduceCtorEq, dec_t, dec_f, ]
end
theorem law_CompsApart {P : Prog} (hp : HasL10 P) (hq : HasL2 P) (hl : HasL10Apart P) (H : Heap) (cs : List V) (x : TD.Ty bmTD) (h : Is H bmTD cs x) : Call P 196 [argV bmTD cs] H fun o _ => o = .ret (.bool true) := by
  obtain ⟨d, rfl, k⟩ := is_bm h
  exact compsApart hp hq hl k
end Go.Ab
