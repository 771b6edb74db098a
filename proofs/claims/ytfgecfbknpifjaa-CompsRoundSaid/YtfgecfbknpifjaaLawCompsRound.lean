/- The law CompsRound. Conditions: none. -/
import Derived.Test.YtfgecfbknpifjaaTq
import Derived.Test.YtfgecfbknpifjaaPL10Round
set_option linter.all false
namespace Go.Ab
section
variable {P : Prog} {H0 H : Heap} {o : BmO}
theorem piece_back {p : Nat → Nat → Bool} {w h : Nat} {PR PR2 : List PcR} (hPR : PR.map PcR.p = pcsOf p w h) {r : PcR} (hr : r ∈ PR) (h2 : PR2.map PcR.p = pcsOf (pixOf r.p.w (Wds r.p.w r.p.h r.p.p)) r.p.w r.p.h) :
    ∃ r2, PR2 = [r2] ∧ r2.p.x = 0 ∧ r2.p.y = 0 ∧ r.p.w = r2.p.w ∧ r.p.h = r2.p.h ∧ Wds r2.p.w r2.p.h r2.p.p = Wds r.p.w r.p.h r.p.p := by
  have hm : r.p ∈ pcsOf p w h := by rw [← hPR]; exact List.mem_map_of_mem hr
  have e := piece_one hm
  rw [← h2, List.map_map] at e
  obtain ⟨r2, rfl⟩ : ∃ r2, PR2 = [r2] := by
    match PR2, congrArg List.length e with
    | [a], _ => exact ⟨a, rfl⟩
  simp only [List.map_cons, List.map_nil, Function.comp, List.cons.injEq, and_true, PcP.key, Prod.mk.injEq] at e
  obtain ⟨e1, e2, e3, e4, e5⟩ := e
  exact ⟨r2, rfl, e1, e2, by omega, by omega, e5⟩
set_option maxHeartbeats 1000000 in
theorem cr_loop1 (hp : HasL10 P) {Q : Post} {t : Tag Q} {s : Tag burinlaw10_CompsRound_l1} {b : Nat} {ov v : V} {w h : Nat} {p : Nat → Nat → Bool} {PR : List PcR} {T : List As} (hPR : PR.map PcR.p = pcsOf p w h) (ha : w * h ≤ 1048576) (hw : w ≤ 1048576) (hh : h ≤ 1048576)
    (hs : Hs H (StP ov PR (Cel b [.int .i64 (w : Nat), .int .i64 (h : Nat), v] :: T)))
    (hK : ∀ H' ex, Hs H' (StP ov PR (Cel b [.int .i64 (w : Nat), .int .i64 (h : Nat), v] :: T)) → Q (.exit 0) ⟨(1, .ptr (some (b, 0))) :: (3, ov) :: (7, .int .i64 0) :: ex, []⟩ H') :
    loopL (Call P) [1, 3, 7, 8] burinlaw10_CompsRound_l1 Q t s ⟨[(1, .ptr (some (b, 0))), (3, ov), (7, .int .i64 0), (8, .int .i64 ((0 : Nat) : Int))], []⟩ H := by
  obtain ⟨pa, pc, pe, rfl⟩ := st_shape hs
  refine loop_cnt 200 (fun i => ⟨[(1, .ptr (some (b, 0))), (3, .sl pa PR.length pc pe), (7, .int .i64 0), (8, .int .i64 (i : Nat))], []⟩)
    (fun i H => i ≤ PR.length ∧ Hs H (StP (.sl pa PR.length pc pe) PR (Cel b [.int .i64 (w : Nat), .int .i64 (h : Nat), v] :: T))) (fun i H1 K hi ⟨hil, h1⟩ hn hx hrr => ?_) 0 H (Nat.zero_le _) ⟨Nat.zero_le _, hs⟩
  by_cases hlt : i < PR.length ∧ i < 200
  · obtain ⟨hl1, hl2⟩ := hlt
    obtain ⟨xb, xo, xc, ev, q5, q1, q3⟩ := st_at h1 hl1
    cases ev
    have hm := List.getElem_mem hl1
    generalize PR[i] = r at q5 q1 q3 hm
    have hmp : r.p ∈ pcsOf p w h := by rw [← hPR]; exact List.mem_map_of_mem hm
    have k := pcs_in hmp
    have hmay := pcs_may hmp ha
    have hA : ∀ {A : List As} {H'}, Hs H' (A ++ StP (.sl (some (xb, xo)) PR.length pc 5) PR (Cel b [.int .i64 (w : Nat), .int .i64 (h : Nat), v] :: T)) → Arr H' r.v 1 (Wds r.p.w r.p.h r.p.p).length (u64s (Wds r.p.w r.p.h r.p.p)) := fun h' => Hs.bmarr h' (List.mem_append_right _ (st_bm hm))
    obtain ⟨va, vc, ve, hv⟩ := (hA (A := []) h1).shape
    obtain ⟨⟨x, y, pw, ph, pp⟩, rv⟩ := r
    dsimp only at hv hA hmay k hmp
    subst hv
    obtain ⟨k1, k2, k3, k4, k5, k6, k7⟩ := k
    dsimp only at k1 k2 k3 k4 k5 k6 k7
    have h2 := h1.alloc (l := PcO.cs (PcR.toO ⟨⟨x, y, pw, ph, pp⟩, .sl va (Wds pw ph pp).length vc ve⟩))
    have c2 := rd_m h2.cel 3 2
    rw [show (piece (PcO.cs (PcR.toO ⟨⟨x, y, pw, ph, pp⟩, .sl va (Wds pw ph pp).length vc ve⟩)) 2 3).map V.agg = some (.agg [.int .i64 (pw : Nat), .int .i64 (ph : Nat), .sl va (Wds pw ph pp).length vc ve]) from rfl] at c2
    simp -implicitDefEqProofs -dsimp (disch := omega) only [go_sem, Nat.reduceEqDiff, ↓reduceIte, Nat.reduceAdd, Nat.reduceMul, Nat.reduceSub, Nat.reduceLT, Nat.reduceLeDiff, Int.reduceLT, Int.reduceLE, Int.reduceEq, Int.reduceNeg, Int.reduceAdd, Int.reduceMul, Int.reduceSub, Int.reduceToNat, reduceCtorEq, dec_t, dec_f, burinlaw10_CompsRound_l1, Int.toNat_natCast, q5, PcO.cs, PcR.toO]
    simp only [PcO.cs, PcR.toO] at c2 h2
    simp -implicitDefEqProofs -dsimp (disch := omega) only [go_sem, Nat.reduceEqDiff, ↓reduceIte, Nat.reduceAdd, Nat.reduceMul, Nat.reduceSub, Nat.reduceLT, Nat.reduceLeDiff, Int.reduceLT, Int.reduceLE, Int.reduceEq, Int.reduceNeg, Int.reduceAdd, Int.reduceMul, Int.reduceSub, Int.reduceToNat, reduceCtorEq, dec_t, dec_f, c2]
    refine may_ct hp.rz h2 (hA (A := [_]) h2) (Wds_lt _ _ _) (by unfold i64r; omega) (by unfold i64r; omega) fun bb H3 hbb h3 _ => ?_
    rw [hbb.2 hmay]
    have d2 := rd_s h3.cel
    have d3 := rd_m h3.cel 3 2
    have d1 := rd_s (h3.celm (b := b) (l := [.int .i64 (w : Nat), .int .i64 (h : Nat), v]) (by simp [StP]))
    rw [show (piece [V.int .i64 x, .int .i64 y, .int .i64 (pw : Nat), .int .i64 (ph : Nat), .sl va (Wds pw ph pp).length vc ve] 2 3).map V.agg = some (.agg [.int .i64 (pw : Nat), .int .i64 (ph : Nat), .sl va (Wds pw ph pp).length vc ve]) from rfl] at d3
    simp -implicitDefEqProofs -dsimp (disch := omega) only [go_sem, Nat.reduceEqDiff, ↓reduceIte, Nat.reduceAdd, Nat.reduceMul, Nat.reduceSub, Nat.reduceLT, Nat.reduceLeDiff, Int.reduceLT, Int.reduceLE, Int.reduceEq, Int.reduceNeg, Int.reduceAdd, Int.reduceMul, Int.reduceSub, Int.reduceToNat, reduceCtorEq, dec_t, dec_f, d1, d2, d3, w64, d_gre]
    refine compsOf_ct hp.bm hp.ru hp.co h3 (fun H' h' => hA (A := [_]) h') (Wds_lt _ _ _) (by unfold i64r; omega) (by unfold i64r; omega) (fun n => absurd hmay n) fun _ ov2 PR2 H4 hPR2 h4 => ?_
    obtain ⟨⟨⟨x2, y2, w2, h2', p2⟩, v2⟩, rfl, e1, e2, e3, e4, e5⟩ := piece_back hPR hm hPR2
    dsimp only at e1 e2 e3 e4 e5
    subst e1 e2 e3 e4
    obtain ⟨yb, yo, yc, ev, s5, s1, s3⟩ := st_at h4 (i := 0) (by simp)
    subst ev
    have t0 := s1 0 (by omega)
    have t1 := s1 1 (by omega)
    have d3 := rd_m (h4.celm (b := H1.next) (l := [.int .i64 x, .int .i64 y, .int .i64 (pw : Nat), .int .i64 (ph : Nat), .sl va (Wds pw ph pp).length vc ve]) (by simp [StP])) 3 2
    rw [show (piece [V.int .i64 x, .int .i64 y, .int .i64 (pw : Nat), .int .i64 (ph : Nat), .sl va (Wds pw ph pp).length vc ve] 2 3).map V.agg = some (.agg [.int .i64 (pw : Nat), .int .i64 (ph : Nat), .sl va (Wds pw ph pp).length vc ve]) from rfl] at d3
    have hB : Arr H4 v2 1 (Wds pw ph p2).length (u64s (Wds pw ph p2)) := Hs.bmarr h4 (st_bm (List.mem_cons_self ..))
    simp only [List.getElem_cons_zero, PcR.toO, PcO.cs, List.getElem?_cons_zero, List.getElem?_cons_succ, Nat.add_zero, Nat.zero_mul, Nat.one_mul] at t0 t1 s3
    simp -implicitDefEqProofs -dsimp (disch := omega) only [go_sem, Nat.reduceEqDiff, ↓reduceIte, Nat.reduceAdd, Nat.reduceMul, Nat.reduceSub, Nat.reduceLT, Nat.reduceLeDiff, Int.reduceLT, Int.reduceLE, Int.reduceEq, Int.reduceNeg, Int.reduceAdd, Int.reduceMul, Int.reduceSub, Int.reduceToNat, reduceCtorEq, dec_t, dec_f, t0, t1, s3, d3, d_gre, List.length_cons, List.length_nil]
    have hC : Arr H4 (.sl va (Wds pw ph pp).length vc ve) 1 (Wds pw ph pp).length (u64s (Wds pw ph pp)) := hA (A := [_, _, _]) (by simpa only [StP, List.map_cons, List.map_nil, List.cons_append, List.nil_append] using h4)
    refine eqb_ct hp.rz h4 hB hC (by rw [e5]; have := wds_le (w := pw) (h := ph) (by omega) (by omega); rw [Wds_length]; omega) fun H5 h5 _ => ?_
    rw [decide_eq_true ⟨rfl, rfl, e5⟩]
    simp -implicitDefEqProofs -dsimp (disch := omega) only [go_sem, Nat.reduceEqDiff, ↓reduceIte, Nat.reduceAdd, Nat.reduceMul, Nat.reduceSub, Nat.reduceLT, Nat.reduceLeDiff, Int.reduceLT, Int.reduceLE, Int.reduceEq, Int.reduceNeg, Int.reduceAdd, Int.reduceMul, Int.reduceSub, Int.reduceToNat, reduceCtorEq, dec_t, dec_f, w64, cadd1]
    exact hn hl2 H5 ⟨hl1, h5.stTail.tail⟩
  · simp -implicitDefEqProofs -dsimp (disch := omega) only [go_sem, Nat.reduceEqDiff, ↓reduceIte, Nat.reduceAdd, Nat.reduceMul, Nat.reduceSub, Nat.reduceLT, Nat.reduceLeDiff, Int.reduceLT, Int.reduceLE, Int.reduceEq, Int.reduceNeg, Int.reduceAdd, Int.reduceMul, Int.reduceSub, Int.reduceToNat, reduceCtorEq, dec_t, dec_f, burinlaw10_CompsRound_l1]
    by_cases hi1 : i < PR.length
    · simp -implicitDefEqProofs -dsimp (disch := omega) only [go_sem, Nat.reduceEqDiff, ↓reduceIte, Nat.reduceAdd, Nat.reduceMul, Nat.reduceSub, Nat.reduceLT, Nat.reduceLeDiff, Int.reduceLT, Int.reduceLE, Int.reduceEq, Int.reduceNeg, Int.reduceAdd, Int.reduceMul, Int.reduceSub, Int.reduceToNat, reduceCtorEq, dec_t, dec_f, ]
      rw [hx]
      exact hK H1 _ h1
    · simp -implicitDefEqProofs -dsimp (disch := omega) only [go_sem, Nat.reduceEqDiff, ↓reduceIte, Nat.reduceAdd, Nat.reduceMul, Nat.reduceSub, Nat.reduceLT, Nat.reduceLeDiff, Int.reduceLT, Int.reduceLE, Int.reduceEq, Int.reduceNeg, Int.reduceAdd, Int.reduceMul, Int.reduceSub, Int.reduceToNat, reduceCtorEq, dec_t, dec_f, ]
      rw [hx]
      exact hK H1 _ h1
theorem sum_take {α : Type} (f : α → Nat) : ∀ (l : List α) (i : Nat), ((l.take i).map f).sum ≤ (l.map f).sum
  | [], i => by simp
  | a :: l, 0 => by simp
  | a :: l, i + 1 => by simp only [List.take_succ_cons, List.map_cons, List.sum_cons]; have := sum_take f l i; omega
def pcN (r : PcR) : Nat := cnt2 r.p.w r.p.p r.p.h
set_option maxHeartbeats 1000000 in
theorem cr_loop0 (hp : HasL10 P) {Q : Post} {t : Tag Q} {s : Tag burinlaw10_CompsRound_l0} {b : Nat} {ov : V} {w h : Nat} {p : Nat → Nat → Bool} {PR : List PcR} {T : List As} {ex0 : List (Nat × V)} (hPR : PR.map PcR.p = pcsOf p w h) (ha : w * h ≤ 1048576)
    (hs : Hs H (StP ov PR T)) (hK : ∀ H' ex, Hs H' T → Q (.exit 2) ⟨(1, .ptr (some (b, 0))) :: (3, ov) :: (7, .int .i64 (cnt2 w p h : Nat)) :: ex, []⟩ H') :
    loopL (Call P) [1, 3, 7, 12] burinlaw10_CompsRound_l0 Q t s ⟨[(1, .ptr (some (b, 0))), (3, ov), (7, .int .i64 0), (12, .int .i64 ((0 : Nat) : Int))], []⟩ H := by
  obtain ⟨pa, pc, pe, rfl⟩ := st_shape hs
  have tot : (PR.map pcN).sum = cnt2 w p h := by
    have := pcs_count p w h
    rw [← hPR, List.map_map] at this; exact this
  have hc := cnt2_le w p h
  have hcm := Nat.mul_comm w h
  have hlen : PR.length ≤ 1048576 := by
    have h1 : ∀ r ∈ PR, 1 ≤ pcN r := fun r hr => by
      have hm : r.p ∈ pcsOf p w h := by rw [← hPR]; exact List.mem_map_of_mem hr
      exact pcs_pos hm
    have : PR.length ≤ (PR.map pcN).sum := by
      clear hPR hs hK tot t s
      induction PR with
      | nil => simp
      | cons a l ih => simp only [List.length_cons, List.map_cons, List.sum_cons]; have := h1 a (List.mem_cons_self ..); have := ih fun r hr => h1 r (List.mem_cons_of_mem _ hr); omega
    omega
  refine loop_cnt PR.length (fun i => ⟨[(1, .ptr (some (b, 0))), (3, .sl pa PR.length pc pe), (7, .int .i64 (((PR.take i).map pcN).sum : Nat)), (12, .int .i64 (i : Nat))], []⟩)
    (fun i H => Hs H (StP (.sl pa PR.length pc pe) PR T)) (fun i H1 K hi h1 hn hx hrr => ?_) 0 H (Nat.zero_le _) hs
  by_cases hlt : i < PR.length
  · obtain ⟨xb, xo, xc, ev, q5, q1, q3⟩ := st_at h1 hlt
    cases ev
    have hm := List.getElem_mem hlt
    have etk : (PR.take (i + 1)).map pcN = (PR.take i).map pcN ++ [pcN PR[i]] := by rw [show PR.take (i + 1) = PR.take i ++ [PR[i]] from (List.take_append_getElem hlt).symm, List.map_append]; rfl
    have hsum := sum_take pcN PR (i + 1)
    generalize PR[i] = r at q3 hm etk
    rw [etk, List.sum_append] at hsum
    simp only [List.sum_cons, List.sum_nil, Nat.add_zero] at hsum
    simp -implicitDefEqProofs -dsimp (disch := omega) only [go_sem, Nat.reduceEqDiff, ↓reduceIte, Nat.reduceAdd, Nat.reduceMul, Nat.reduceSub, Nat.reduceLT, Nat.reduceLeDiff, Int.reduceLT, Int.reduceLE, Int.reduceEq, Int.reduceNeg, Int.reduceAdd, Int.reduceMul, Int.reduceSub, Int.reduceToNat, reduceCtorEq, dec_t, dec_f, burinlaw10_CompsRound_l0, Int.toNat_natCast, q3]
    refine countB_at hp.rz h1 (st_bm hm) fun H2 h2 => ?_
    have e2 : ((((PR.take i).map pcN).sum : Nat) : Int) + ((cnt2 r.p.w r.p.p r.p.h : Nat) : Int) = ((((PR.take (i + 1)).map pcN).sum : Nat) : Int) := by
      rw [etk, List.sum_append]; simp [pcN]
    have e3 : pcN r = cnt2 r.p.w r.p.p r.p.h := rfl
    simp -implicitDefEqProofs -dsimp (disch := omega) only [go_sem, Nat.reduceEqDiff, ↓reduceIte, Nat.reduceAdd, Nat.reduceMul, Nat.reduceSub, Nat.reduceLT, Nat.reduceLeDiff, Int.reduceLT, Int.reduceLE, Int.reduceEq, Int.reduceNeg, Int.reduceAdd, Int.reduceMul, Int.reduceSub, Int.reduceToNat, reduceCtorEq, dec_t, dec_f, w64, cadd1, e2]
    exact hn hlt H2 h2
  · obtain rfl : i = PR.length := by omega
    rw [List.take_length, tot]
    simp -implicitDefEqProofs -dsimp (disch := omega) only [go_sem, Nat.reduceEqDiff, ↓reduceIte, Nat.reduceAdd, Nat.reduceMul, Nat.reduceSub, Nat.reduceLT, Nat.reduceLeDiff, Int.reduceLT, Int.reduceLE, Int.reduceEq, Int.reduceNeg, Int.reduceAdd, Int.reduceMul, Int.reduceSub, Int.reduceToNat, reduceCtorEq, dec_t, dec_f, burinlaw10_CompsRound_l0]
    rw [hx]
    exact hK H1 _ h1.stTail
theorem pcs_back {p : Nat → Nat → Bool} {w h : Nat} {PR : List PcR} (hPR : PR.map PcR.p = pcsOf p w h) : Wds w h (bkPx (PR.map PcR.toO)) = Wds w h p := Wds_eq.2 fun _ _ hx hy => bk_pcs hPR hx hy
theorem pcs_ok {p : Nat → Nat → Bool} {w h : Nat} {PR : List PcR} (hPR : PR.map PcR.p = pcsOf p w h) (ha : w * h ≤ 1048576) : ∀ q ∈ PR.map PcR.toO, poOk q := fun q hq => by
  obtain ⟨r, hr, rfl⟩ := List.mem_map.1 hq
  exact pcs_may (by rw [← hPR]; exact List.mem_map_of_mem hr) ha
theorem BmM.le {o : BmO} (m : BmM o) : o.wn ≤ 1048576 ∧ o.hn ≤ 1048576 := by
  have h1 := m.area
  have h4 := Nat.le_mul_of_pos_right o.wn (show 0 < o.hn from m.h1)
  have h5 := Nat.le_mul_of_pos_left o.hn (show 0 < o.wn from m.w1)
  omega
theorem pcs_len {p : Nat → Nat → Bool} {w h : Nat} : (pcsOf p w h).length ≤ cnt2 w p h := by
  rw [← pcs_count]
  have h1 : ∀ r ∈ pcsOf p w h, 1 ≤ cnt2 r.w r.p r.h := fun r hr => pcs_pos hr
  generalize pcsOf p w h = l at *
  induction l with
  | nil => simp
  | cons a l ih => simp only [List.length_cons, List.map_cons, List.sum_cons]; have := h1 a (List.mem_cons_self ..); have := ih fun r hr => h1 r (List.mem_cons_of_mem _ hr); omega
set_option maxHeartbeats 1000000 in
theorem compsRound (hp : HasL10 P) (hq : HasL2 P) (hg : P 194 = some burinlaw10_CompsRound) (k : BmOk H o) : Call P 194 [.agg [.int .i64 o.w, .int .i64 o.h, o.v]] H fun o _ => o = .ret (.bool true) := by
  refine call_of hg rfl ?_
  have h1 := (Hs.start H).alloc (l := [.int .i64 o.w, .int .i64 o.h, o.v])
  have r1 := rd_bm h1 (List.mem_cons_self ..) 3 rfl
  simp -implicitDefEqProofs -dsimp (disch := omega) only [go_sem, Nat.reduceEqDiff, ↓reduceIte, Nat.reduceAdd, Nat.reduceMul, Nat.reduceSub, Nat.reduceLT, Nat.reduceLeDiff, Int.reduceLT, Int.reduceLE, Int.reduceEq, Int.reduceNeg, Int.reduceAdd, Int.reduceMul, Int.reduceSub, Int.reduceToNat, reduceCtorEq, dec_t, dec_f, ]
  generalize H.new _ = H1 at *
  generalize H.next = b at *
  simp -implicitDefEqProofs -dsimp (disch := omega) only [go_sem, Nat.reduceEqDiff, ↓reduceIte, Nat.reduceAdd, Nat.reduceMul, Nat.reduceSub, Nat.reduceLT, Nat.reduceLeDiff, Int.reduceLT, Int.reduceLE, Int.reduceEq, Int.reduceNeg, Int.reduceAdd, Int.reduceMul, Int.reduceSub, Int.reduceToNat, reduceCtorEq, dec_t, dec_f, r1]
  refine mayO9 hp k h1 (by simp) fun mb H2 hm h2 => ?_
  cases mb with
  | false =>
    simp -implicitDefEqProofs -dsimp (disch := omega) only [go_sem, Nat.reduceEqDiff, ↓reduceIte, Nat.reduceAdd, Nat.reduceMul, Nat.reduceSub, Nat.reduceLT, Nat.reduceLeDiff, Int.reduceLT, Int.reduceLE, Int.reduceEq, Int.reduceNeg, Int.reduceAdd, Int.reduceMul, Int.reduceSub, Int.reduceToNat, reduceCtorEq, dec_t, dec_f, ]
    refine wakes10_ct hp.bm hp.rz hp.ru hp.co hp.w h2 fun H3 h3 => ?_
    simp -implicitDefEqProofs -dsimp (disch := omega) only [go_sem, Nat.reduceEqDiff, ↓reduceIte, Nat.reduceAdd, Nat.reduceMul, Nat.reduceSub, Nat.reduceLT, Nat.reduceLeDiff, Int.reduceLT, Int.reduceLE, Int.reduceEq, Int.reduceNeg, Int.reduceAdd, Int.reduceMul, Int.reduceSub, Int.reduceToNat, reduceCtorEq, dec_t, dec_f, ]
  | true =>
  have may := hm.1 rfl
  have mm := bmM_of k may
  obtain ⟨le1, le2⟩ := mm.le
  have hc := rd_bm h2 (List.mem_cons_self ..) 3 rfl
  have h3 := h2.alloc (l := [.int .i64 o.w, .int .i64 o.h, o.v])
  simp -implicitDefEqProofs -dsimp (disch := omega) only [go_sem, Nat.reduceEqDiff, ↓reduceIte, Nat.reduceAdd, Nat.reduceMul, Nat.reduceSub, Nat.reduceLT, Nat.reduceLeDiff, Int.reduceLT, Int.reduceLE, Int.reduceEq, Int.reduceNeg, Int.reduceAdd, Int.reduceMul, Int.reduceSub, Int.reduceToNat, reduceCtorEq, dec_t, dec_f, hc]
  generalize H2.new _ = H3 at *
  generalize H2.next = bx at *
  refine small9 hq k h3.cel ?_
  have h4 := h3.tail
  have c4 := rd_bm h4 (List.mem_cons_self ..) 3 rfl
  by_cases hsm : 64 * o.ws.length + 64 ≤ 20000
  rotate_left
  · rw [decide_eq_false hsm]
    simp -implicitDefEqProofs -dsimp (disch := omega) only [go_sem, Nat.reduceEqDiff, ↓reduceIte, Nat.reduceAdd, Nat.reduceMul, Nat.reduceSub, Nat.reduceLT, Nat.reduceLeDiff, Int.reduceLT, Int.reduceLE, Int.reduceEq, Int.reduceNeg, Int.reduceAdd, Int.reduceMul, Int.reduceSub, Int.reduceToNat, reduceCtorEq, dec_t, dec_f, ]
    refine wakes10_ct hp.bm hp.rz hp.ru hp.co hp.w h4 fun H3 h3 => ?_
    simp -implicitDefEqProofs -dsimp (disch := omega) only [go_sem, Nat.reduceEqDiff, ↓reduceIte, Nat.reduceAdd, Nat.reduceMul, Nat.reduceSub, Nat.reduceLT, Nat.reduceLeDiff, Int.reduceLT, Int.reduceLE, Int.reduceEq, Int.reduceNeg, Int.reduceAdd, Int.reduceMul, Int.reduceSub, Int.reduceToNat, reduceCtorEq, dec_t, dec_f, ]
  rw [decide_eq_true hsm]
  simp -implicitDefEqProofs -dsimp (disch := omega) only [go_sem, Nat.reduceEqDiff, ↓reduceIte, Nat.reduceAdd, Nat.reduceMul, Nat.reduceSub, Nat.reduceLT, Nat.reduceLeDiff, Int.reduceLT, Int.reduceLE, Int.reduceEq, Int.reduceNeg, Int.reduceAdd, Int.reduceMul, Int.reduceSub, Int.reduceToNat, reduceCtorEq, dec_t, dec_f, c4]
  refine ofO hp k may h4 (by simp) fun ov PR H5 hPR h5 => ?_
  have hlen : PR.length ≤ 1048576 := by
    have e1 := congrArg List.length hPR
    rw [List.length_map] at e1
    have e2 := pcs_len (p := o.px) (w := o.wn) (h := o.hn)
    have e3 := cnt2_le o.wn o.px o.hn
    have e4 := Nat.mul_comm o.wn o.hn
    have e5 := mm.area
    omega
  have hrd := st_rd (ov := ov) (T := [Cel b [.int .i64 o.w, .int .i64 o.h, o.v], Bas H]) hPR le1 le2
  have c5 := rd_s (h5.stTail.cel)
  obtain ⟨pa, pc, pe, rfl⟩ := st_shape h5
  simp -implicitDefEqProofs -dsimp (disch := omega) only [go_sem, Nat.reduceEqDiff, ↓reduceIte, Nat.reduceAdd, Nat.reduceMul, Nat.reduceSub, Nat.reduceLT, Nat.reduceLeDiff, Int.reduceLT, Int.reduceLE, Int.reduceEq, Int.reduceNeg, Int.reduceAdd, Int.reduceMul, Int.reduceSub, Int.reduceToNat, reduceCtorEq, dec_t, dec_f, c5]
  refine compsBack_ct hp.bm hp.co h5 hrd k.w k.h (by rw [List.length_map]; omega) (fun n => absurd ⟨may.1, pcs_ok hPR mm.area⟩ n) fun _ _ v' H6 h6 => ?_
  obtain ⟨va, vn, vc, ve, rfl⟩ : ∃ a n c e, v' = V.sl a n c e := by obtain ⟨vb, kv⟩ := bmV h6; exact ⟨_, _, _, _, kv.val⟩
  have h7 := h6.alloc (l := [.int .i64 o.w, .int .i64 o.h, .sl va vn vc ve])
  simp -implicitDefEqProofs -dsimp (disch := omega) only [go_sem, Nat.reduceEqDiff, ↓reduceIte, Nat.reduceAdd, Nat.reduceMul, Nat.reduceSub, Nat.reduceLT, Nat.reduceLeDiff, Int.reduceLT, Int.reduceLE, Int.reduceEq, Int.reduceNeg, Int.reduceAdd, Int.reduceMul, Int.reduceSub, Int.reduceToNat, reduceCtorEq, dec_t, dec_f, ]
  generalize H6.new _ = H7 at *
  generalize H6.next = b5 at *
  have q1 := rd_bm h7 (b := b) (l := [.int .i64 o.w, .int .i64 o.h, o.v]) (by simp [StP]) 3 rfl
  have q2 := rd_bm h7 (List.mem_cons_self ..) 3 rfl
  have ew : Wds o.w.toNat o.h.toNat (bkPx (PR.map PcR.toO)) = o.ws := (pcs_back hPR).trans mm.words
  have arr1 : Arr H7 o.v 1 o.ws.length (u64s o.ws) := k.arr.same ((h7.tail.tail.stTail).bas (H0 := H) (by simp)) fun _ _ h => h
  have arr2 : Arr H7 (.sl va vn vc ve) 1 o.ws.length (u64s o.ws) := by
    have := Hs.bmarr (v := .sl va vn vc ve) (w := o.w.toNat) (h := o.h.toNat) (p := bkPx (PR.map PcR.toO)) h7 (by simp)
    rwa [ew] at this
  simp -implicitDefEqProofs -dsimp (disch := omega) only [go_sem, Nat.reduceEqDiff, ↓reduceIte, Nat.reduceAdd, Nat.reduceMul, Nat.reduceSub, Nat.reduceLT, Nat.reduceLeDiff, Int.reduceLT, Int.reduceLE, Int.reduceEq, Int.reduceNeg, Int.reduceAdd, Int.reduceMul, Int.reduceSub, Int.reduceToNat, reduceCtorEq, dec_t, dec_f, q1, q2]
  refine eqb_ct hp.rz h7 arr1 arr2 (by have := k.len; omega) fun H8 h8 _ => ?_
  rw [decide_eq_true ⟨rfl, rfl, rfl⟩]
  simp -implicitDefEqProofs -dsimp (disch := omega) only [go_sem, Nat.reduceEqDiff, ↓reduceIte, Nat.reduceAdd, Nat.reduceMul, Nat.reduceSub, Nat.reduceLT, Nat.reduceLeDiff, Int.reduceLT, Int.reduceLE, Int.reduceEq, Int.reduceNeg, Int.reduceAdd, Int.reduceMul, Int.reduceSub, Int.reduceToNat, reduceCtorEq, dec_t, dec_f, ]
  have h9 := h8.tail.tail
  rw [mm.w, mm.h] at h9
  refine cr_loop1 hp hPR mm.area le1 le2 h9 fun H9 ex h10 => ?_
  rw [← mm.w, ← mm.h] at h10
  simp -implicitDefEqProofs -dsimp (disch := omega) only [go_sem, Nat.reduceEqDiff, ↓reduceIte, Nat.reduceAdd, Nat.reduceMul, Nat.reduceSub, Nat.reduceLT, Nat.reduceLeDiff, Int.reduceLT, Int.reduceLE, Int.reduceEq, Int.reduceNeg, Int.reduceAdd, Int.reduceMul, Int.reduceSub, Int.reduceToNat, reduceCtorEq, dec_t, dec_f, ]
  refine cr_loop0 (ex0 := []) hp hPR mm.area h10 fun H10 ex h11 => ?_
  have q3 := rd_bm h11 (List.mem_cons_self ..) 3 rfl
  simp -implicitDefEqProofs -dsimp (disch := omega) only [go_sem, Nat.reduceEqDiff, ↓reduceIte, Nat.reduceAdd, Nat.reduceMul, Nat.reduceSub, Nat.reduceLT, Nat.reduceLeDiff, Int.reduceLT, Int.reduceLE, Int.reduceEq, Int.reduceNeg, Int.reduceAdd, Int.reduceMul, Int.reduceSub, Int.reduceToNat, reduceCtorEq, dec_t, dec_f, q3]
  rw [mm.w, mm.h] at h11 ⊢
  refine countR_ct hp.rz h11 (k.arr.same (h11.bas (H0 := H) (by simp)) fun _ _ h => h) mm.len k.lt ⟨mm.w1, mm.h1, mm.area⟩ fun H11 h12 _ => ?_
  rw [show cnt2 o.wn (pixOf o.wn o.ws) o.hn = cnt2 o.wn o.px o.hn from rfl]
  simp -implicitDefEqProofs -dsimp (disch := omega) only [go_sem, Nat.reduceEqDiff, ↓reduceIte, Nat.reduceAdd, Nat.reduceMul, Nat.reduceSub, Nat.reduceLT, Nat.reduceLeDiff, Int.reduceLT, Int.reduceLE, Int.reduceEq, Int.reduceNeg, Int.reduceAdd, Int.reduceMul, Int.reduceSub, Int.reduceToNat, reduceCtorEq, dec_t, dec_f, ]
  refine wakes10_ct hp.bm hp.rz hp.ru hp.co hp.w h12 fun H3 h3 => ?_
  simp -implicitDefEqProofs -dsimp (disch := omega) only [go_sem, Nat.reduceEqDiff, ↓reduceIte, Nat.reduceAdd, Nat.reduceMul, Nat.reduceSub, Nat.reduceLT, Nat.reduceLeDiff, Int.reduceLT, Int.reduceLE, Int.reduceEq, Int.reduceNeg, Int.reduceAdd, Int.reduceMul, Int.reduceSub, Int.reduceToNat, reduceCtorEq, dec_t, dec_f, ]
end
theorem law_CompsRound {P : Prog} (hp : HasL10 P) (hq : HasL2 P) (hg : P 194 = some burinlaw10_CompsRound) (H : Heap) (cs : List V) (x : TD.Ty bmTD) (h : Is H bmTD cs x) : Call P 194 [argV bmTD cs] H fun o _ => o = .ret (.bool true) := by
  obtain ⟨d, rfl, k⟩ := is_bm h
  exact compsRound hp hq hg k
end Go.Ab
