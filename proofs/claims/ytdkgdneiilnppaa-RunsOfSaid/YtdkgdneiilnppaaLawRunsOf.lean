/- The law RunsOf. Conditions: none. -/
import Derived.Test.YtdkgdneiilnppaaRi
import Derived.Test.YtdkgdneiilnppaaPL9Of
set_option linter.all false
namespace Go.Ab
structure HasL9k (P : Prog) : Prop where
  bm : HasBm P
  rz : HasRz P
  ru : HasRu P
  rf : HasRf9 P
  kit : HasKit2 P
def RoF (v : V) (i : Nat) (wv : V) (f : Int) (k : Nat) (ex : List (Nat × V)) : Fr := ⟨(0, v) :: (3, .int .i64 i) :: (4, wv) :: (5, .int .i64 f) :: (6, .int .i64 k) :: ex, []⟩
/-- The rows are written over. -/
theorem wipe {P : Prog} {H : Heap} {T : List As} {v wv ov : V} {i k : Nat} {f : Int} {RL : List RowR} (h : Hs H (StR ov RL T)) (hl : RL.length ≤ 1048576) (hr : ∀ r ∈ RL, r.l.length ≤ 1048576) {Qp : Post}
    (hQ : ∀ ex H', Hs H' T → Qp (.exit 4) (RoF v i wv f k ex) H') {s t} : loopL (Call P) [0, 3, 4, 5, 6, 8, 10] burinlaw9_RunsOf_l2 Qp s t (RoF v i wv f k [(8, ov), (10, .int .i64 0)]) H := by
  refine loop_cnt RL.length (fun n => RoF v i wv f k [(8, ov), (10, .int .i64 n)]) (fun n H' => Hs H' (Lst ov 1 RL.length (RL.map RowR.v) :: ((RL.drop n).map RowR.as ++ T))) (fun n H1 K hn h1 hnx hx hrr => ?_) 0 H (by omega) h
  by_cases he : n < RL.length
  · obtain ⟨ob, oo, oc, hov⟩ := h1.own.arr.at0 (by omega)
    have hro := h1.own.arr
    rw [hov] at hro
    have rdv := hro.rd1 he
    rw [List.getElem?_map, List.getElem?_eq_getElem he, Option.map_some] at rdv
    have hdr : RL.drop n = RL[n] :: RL.drop (n + 1) := List.drop_eq_getElem_cons he
    rw [hdr, List.map_cons] at h1
    have hll := hr RL[n] (List.getElem_mem _)
    generalize RL[n] = r at *
    have h2 : Hs H1 (Lst r.v 2 r.l.length (rcells r.l) :: Lst ov 1 RL.length (RL.map RowR.v) :: ((RL.drop (n + 1)).map RowR.as ++ T)) := Hs.p1 h1
    obtain ⟨sv, H2, ha, ho, hsm, hf⟩ := app_one h2.own (M := [.int .i64 9, .int .i64 9]) (m := 1) (eb := 16) rfl rfl (by omega) (by omega)
    have h3 := h2.lst' hsm ho hf
    obtain ⟨sb, hsv⟩ : ∃ sb, sv = .sl (some (sb, 0)) (r.l.length + 1) (r.l.length + 1) 2 := by
      rcases ho with ⟨_, hn0, _⟩ | ⟨b, hv, _⟩
      · omega
      · exact ⟨b, hv⟩
    rw [hov]
    obtain ⟨ra, rc, re, hrv⟩ := h2.own.arr.shape
    rw [hrv] at rdv ha
    simp -implicitDefEqProofs -dsimp (disch := omega) only [go_sem, Nat.reduceEqDiff, ↓reduceIte, Nat.reduceAdd, Nat.reduceMul, Nat.reduceSub, Nat.reduceLT, Nat.reduceLeDiff, Int.reduceLT, Int.reduceLE, Int.reduceEq, Int.reduceNeg, Int.reduceAdd, Int.reduceMul, Int.reduceSub, Int.reduceToNat, reduceCtorEq, dec_t, dec_f, burinlaw9_RunsOf_l2, RoF, Int.toNat_natCast, Nat.mul_one, rdv, ha]
    rw [hsv] at h3 ⊢
    refine loop_dec (σ := Nat × List V) (fun x => r.l.length + 1 - x.1) (fun x => RoF v i wv f k [(8, .sl (some (ob, oo)) RL.length oc 1), (10, .int .i64 n), (11, .sl (some (sb, 0)) (r.l.length + 1) (r.l.length + 1) 2), (12, .int .i64 (x.1 : Nat))])
      (fun x H' => x.1 ≤ r.l.length + 1 ∧ Hs H' (Lst (.sl (some (sb, 0)) (r.l.length + 1) (r.l.length + 1) 2) 2 (r.l.length + 1) x.2 :: Lst ov 1 RL.length (RL.map RowR.v) :: ((RL.drop (n + 1)).map RowR.as ++ T))) (fun x H3 K2 ⟨hm, h4⟩ hn2 hx2 hr2 => ?_) (0, _) H2 ⟨by simp, h3⟩
    obtain ⟨m, L⟩ := x
    dsimp only at hm h4 hn2
    by_cases hml : m < r.l.length + 1
    · obtain ⟨b, e1, hb, hw, ho2, hsm2⟩ := wr_own h4.own (i := m) (k := 0) hml (vs := [.int .i64 (-1), .int .i64 (-1)]) (by simp) (by decide)
      cases e1
      rw [Nat.add_zero] at hw
      simp -implicitDefEqProofs -dsimp (disch := omega) only [go_sem, Nat.reduceEqDiff, ↓reduceIte, Nat.reduceAdd, Nat.reduceMul, Nat.reduceSub, Nat.reduceLT, Nat.reduceLeDiff, Int.reduceLT, Int.reduceLE, Int.reduceEq, Int.reduceNeg, Int.reduceAdd, Int.reduceMul, Int.reduceSub, Int.reduceToNat, reduceCtorEq, dec_t, dec_f, burinlaw9_RunsOf_l3, RoF, Int.toNat_natCast, hw, w64, cadd1]
      exact hn2 (m + 1, _) _ (by dsimp only; omega) ⟨by dsimp only; omega, h4.lst' hsm2 ho2 fun _ h => Or.inl h⟩
    · obtain rfl : m = r.l.length + 1 := by omega
      simp -implicitDefEqProofs -dsimp (disch := omega) only [go_sem, Nat.reduceEqDiff, ↓reduceIte, Nat.reduceAdd, Nat.reduceMul, Nat.reduceSub, Nat.reduceLT, Nat.reduceLeDiff, Int.reduceLT, Int.reduceLE, Int.reduceEq, Int.reduceNeg, Int.reduceAdd, Int.reduceMul, Int.reduceSub, Int.reduceToNat, reduceCtorEq, dec_t, dec_f, burinlaw9_RunsOf_l3, RoF]
      rw [hx2]
      simp -implicitDefEqProofs -dsimp (disch := omega) only [go_sem, Nat.reduceEqDiff, ↓reduceIte, Nat.reduceAdd, Nat.reduceMul, Nat.reduceSub, Nat.reduceLT, Nat.reduceLeDiff, Int.reduceLT, Int.reduceLE, Int.reduceEq, Int.reduceNeg, Int.reduceAdd, Int.reduceMul, Int.reduceSub, Int.reduceToNat, reduceCtorEq, dec_t, dec_f, w64, cadd1]
      rw [← hov]
      exact hnx he H3 h4.tail
  · obtain rfl : n = RL.length := by omega
    obtain ⟨oa, oc, oe, hov⟩ := h1.own.arr.shape
    rw [hov]
    simp -implicitDefEqProofs -dsimp (disch := omega) only [go_sem, Nat.reduceEqDiff, ↓reduceIte, Nat.reduceAdd, Nat.reduceMul, Nat.reduceSub, Nat.reduceLT, Nat.reduceLeDiff, Int.reduceLT, Int.reduceLE, Int.reduceEq, Int.reduceNeg, Int.reduceAdd, Int.reduceMul, Int.reduceSub, Int.reduceToNat, reduceCtorEq, dec_t, dec_f, burinlaw9_RunsOf_l2, RoF]
    rw [hx]
    have := hQ [(8, .sl oa RL.length oc oe), (10, .int .i64 RL.length), (73, .bool false)] H1 (by rw [List.drop_length] at h1; exact h1.tail)
    exact this
set_option maxHeartbeats 1000000 in
theorem runsOfL {P : Prog} (hp : HasL9k P) (hg : P 123 = some burinlaw9_RunsOf) {H : Heap} {v : V} {l : List BmO} (hv : Arr H v 3 l.length (bmCells l)) (ho : ∀ o ∈ l, BmOk H o) (hl : l.length ≤ 140737488351232) :
    Call P 123 [v] H fun o _ => o = .ret (.bool true) := by
  refine call_of hg rfl ?_
  obtain ⟨va, vc, ve, hvs⟩ := hv.shape
  simp -implicitDefEqProofs -dsimp (disch := omega) only [go_sem, Nat.reduceEqDiff, ↓reduceIte, Nat.reduceAdd, Nat.reduceMul, Nat.reduceSub, Nat.reduceLT, Nat.reduceLeDiff, Int.reduceLT, Int.reduceLE, Int.reduceEq, Int.reduceNeg, Int.reduceAdd, Int.reduceMul, Int.reduceSub, Int.reduceToNat, reduceCtorEq, dec_t, dec_f, ]
  refine loop_cnt (min l.length 6) (fun i => ⟨[(0, v), (3, .int .i64 i)], []⟩) (fun i H' => Hs H' [Bas H]) (fun i H1 K hi h1 hn hx hrr => ?_) 0 H (by omega) (Hs.start H)
  by_cases hil : i < l.length ∧ i < 6
  · obtain ⟨d1, d2⟩ := hil
    obtain ⟨vb, vo, vc', hve⟩ := hv.at0 (by omega)
    have rdo := fun {H' : Heap} {R : List As} (h : Hs H' R) (hm : Bas H ∈ R) => bmo_at (by rw [hve] at hv; exact hv.same (h.bas hm) fun _ _ h => h) d1
    obtain ⟨ra, rb⟩ := rdo h1 (by simp)
    have ko := ho l[i] (List.getElem_mem _)
    generalize l[i] = o at *
    obtain ⟨oa, oc, oe, hov⟩ := ko.arr.shape
    have harr := fun {H' : Heap} {R : List As} (h : Hs H' R) (hm : Bas H ∈ R) => ko.arr.same (h.bas hm) fun _ _ h => h
    have nxt := fun H' h' => hn (by omega) H' h'
    rw [hve] at nxt ⊢
    by_cases hw : o.ws.length ≤ 937
    · rw [hov] at ra rb
      simp -implicitDefEqProofs -dsimp (disch := omega) only [go_sem, Nat.reduceEqDiff, ↓reduceIte, Nat.reduceAdd, Nat.reduceMul, Nat.reduceSub, Nat.reduceLT, Nat.reduceLeDiff, Int.reduceLT, Int.reduceLE, Int.reduceEq, Int.reduceNeg, Int.reduceAdd, Int.reduceMul, Int.reduceSub, Int.reduceToNat, reduceCtorEq, dec_t, dec_f, burinlaw9_RunsOf_l0, Int.toNat_natCast, rb, ra]
      rw [← hov]
      refine refOfR hp.rz hp.rf h1 (fun H' h' => harr h' (by simp)) ko.lt ko.w ko.h fun wv WL f H2 hof h2 => ?_
      simp -implicitDefEqProofs -dsimp (disch := omega) only [go_sem, Nat.reduceEqDiff, ↓reduceIte, Nat.reduceAdd, Nat.reduceMul, Nat.reduceSub, Nat.reduceLT, Nat.reduceLeDiff, Int.reduceLT, Int.reduceLE, Int.reduceEq, Int.reduceNeg, Int.reduceAdd, Int.reduceMul, Int.reduceSub, Int.reduceToNat, reduceCtorEq, dec_t, dec_f, ]
      refine loop_cnt 2 (fun k => RoF (.sl (some (vb, vo)) l.length vc' 3) i wv f k []) (fun k H' => Hs H' (StR wv WL [Bas H])) (fun k H3 K2 hk h3 hn2 hx2 hr2 => ?_) 0 H2 (by omega) h2
      by_cases hk2 : k < 2
      · have r1 := (rdo h3 (str_mem (by simp))).1
        simp -implicitDefEqProofs -dsimp (disch := omega) only [go_sem, Nat.reduceEqDiff, ↓reduceIte, Nat.reduceAdd, Nat.reduceMul, Nat.reduceSub, Nat.reduceLT, Nat.reduceLeDiff, Int.reduceLT, Int.reduceLE, Int.reduceEq, Int.reduceNeg, Int.reduceAdd, Int.reduceMul, Int.reduceSub, Int.reduceToNat, reduceCtorEq, dec_t, dec_f, burinlaw9_RunsOf_l1, RoF, Int.toNat_natCast, r1]
        refine lendB_ct hp.kit h3 (fun H' h' => harr h' (str_mem (by simp))) (by omega) fun B H4 h4 => ?_
        have h5 := h4.alloc (l := [.int .i64 o.w, .int .i64 o.h, .sl (some (B, 0)) o.ws.length (o.ws.length + 7) 1])
        have r7 := rd_bm h5 (List.mem_cons_self ..) 3 rfl
        simp -implicitDefEqProofs -dsimp (disch := omega) only [go_sem, Nat.reduceEqDiff, ↓reduceIte, Nat.reduceAdd, Nat.reduceMul, Nat.reduceSub, Nat.reduceLT, Nat.reduceLeDiff, Int.reduceLT, Int.reduceLE, Int.reduceEq, Int.reduceNeg, Int.reduceAdd, Int.reduceMul, Int.reduceSub, Int.reduceToNat, reduceCtorEq, dec_t, dec_f, r7]
        generalize H4.new _ = H5 at *
        generalize H4.next = b7 at *
        refine runsOfR hp.bm hp.ru h5.p1 (fun H' h' => lent_arr h' (by simp)) ko.lt ko.w ko.h fun ov RL e H6 hof2 h6 => ?_
        obtain ⟨rfl, hrows⟩ := hof2.det hof
        have h6 := str_out h6
        have r7 := rd_bm h6 (b := b7) (l := [.int .i64 o.w, .int .i64 o.h, .sl (some (B, 0)) o.ws.length (o.ws.length + 7) 1]) (by simp [StR]) 3 rfl
        have r1 := (rdo h6 (by simp [StR])).1
        simp -implicitDefEqProofs -dsimp (disch := omega) only [go_sem, Nat.reduceEqDiff, ↓reduceIte, Nat.reduceAdd, Nat.reduceMul, Nat.reduceSub, Nat.reduceLT, Nat.reduceLeDiff, Int.reduceLT, Int.reduceLE, Int.reduceEq, Int.reduceNeg, Int.reduceAdd, Int.reduceMul, Int.reduceSub, Int.reduceToNat, reduceCtorEq, dec_t, dec_f, Int.toNat_natCast, r1, r7]
        refine backB_ct hp.kit hp.rz h6 (fun H' h' => harr h' (by simp [StR])) (by omega) fun H7 h7 => ?_
        rw [decide_eq_true ⟨rfl, rfl⟩]
        simp -implicitDefEqProofs -dsimp (disch := omega) only [go_sem, Nat.reduceEqDiff, ↓reduceIte, Nat.reduceAdd, Nat.reduceMul, Nat.reduceSub, Nat.reduceLT, Nat.reduceLeDiff, Int.reduceLT, Int.reduceLE, Int.reduceEq, Int.reduceNeg, Int.reduceAdd, Int.reduceMul, Int.reduceSub, Int.reduceToNat, reduceCtorEq, dec_t, dec_f, ]
        have hlen := hof2.len
        refine eqruns_ct hp.rf h7 rrd_st (rrd_st.mono fun H' h' => (str_drop h').tail) (by rw [List.length_map]; have := hlen.1; simp at this; omega) (fun q hq => by have := hlen.2 q hq; omega) ?_
        rw [decide_eq_true hrows]
        simp -implicitDefEqProofs -dsimp (disch := omega) only [go_sem, Nat.reduceEqDiff, ↓reduceIte, Nat.reduceAdd, Nat.reduceMul, Nat.reduceSub, Nat.reduceLT, Nat.reduceLeDiff, Int.reduceLT, Int.reduceLE, Int.reduceEq, Int.reduceNeg, Int.reduceAdd, Int.reduceMul, Int.reduceSub, Int.reduceToNat, reduceCtorEq, dec_t, dec_f, ]
        refine wipe h7 (by have := hlen.1; simpa using this) (fun r hr => hlen.2 _ (List.mem_map_of_mem hr)) fun ex H8 h8 => ?_
        simp -implicitDefEqProofs -dsimp (disch := omega) only [go_sem, Nat.reduceEqDiff, ↓reduceIte, Nat.reduceAdd, Nat.reduceMul, Nat.reduceSub, Nat.reduceLT, Nat.reduceLeDiff, Int.reduceLT, Int.reduceLE, Int.reduceEq, Int.reduceNeg, Int.reduceAdd, Int.reduceMul, Int.reduceSub, Int.reduceToNat, reduceCtorEq, dec_t, dec_f, RoF, w64, cadd1]
        exact hn2 hk2 H8 h8.tail
      · obtain rfl : k = 2 := by omega
        simp -implicitDefEqProofs -dsimp (disch := omega) only [go_sem, Nat.reduceEqDiff, ↓reduceIte, Nat.reduceAdd, Nat.reduceMul, Nat.reduceSub, Nat.reduceLT, Nat.reduceLeDiff, Int.reduceLT, Int.reduceLE, Int.reduceEq, Int.reduceNeg, Int.reduceAdd, Int.reduceMul, Int.reduceSub, Int.reduceToNat, reduceCtorEq, dec_t, dec_f, burinlaw9_RunsOf_l1, RoF]
        rw [hx2]
        simp -implicitDefEqProofs -dsimp (disch := omega) only [go_sem, Nat.reduceEqDiff, ↓reduceIte, Nat.reduceAdd, Nat.reduceMul, Nat.reduceSub, Nat.reduceLT, Nat.reduceLeDiff, Int.reduceLT, Int.reduceLE, Int.reduceEq, Int.reduceNeg, Int.reduceAdd, Int.reduceMul, Int.reduceSub, Int.reduceToNat, reduceCtorEq, dec_t, dec_f, w64, cadd1]
        exact nxt H3 (str_drop h3)
    · rw [hov] at rb
      simp -implicitDefEqProofs -dsimp (disch := omega) only [go_sem, Nat.reduceEqDiff, ↓reduceIte, Nat.reduceAdd, Nat.reduceMul, Nat.reduceSub, Nat.reduceLT, Nat.reduceLeDiff, Int.reduceLT, Int.reduceLE, Int.reduceEq, Int.reduceNeg, Int.reduceAdd, Int.reduceMul, Int.reduceSub, Int.reduceToNat, reduceCtorEq, dec_t, dec_f, burinlaw9_RunsOf_l0, Int.toNat_natCast, rb, w64, cadd1]
      exact nxt H1 h1
  · rw [hvs]
    rcases (show ¬ i < l.length ∨ (i < l.length ∧ ¬ i < 6) by omega) with d | d <;>
    · simp -implicitDefEqProofs -dsimp (disch := omega) only [go_sem, Nat.reduceEqDiff, ↓reduceIte, Nat.reduceAdd, Nat.reduceMul, Nat.reduceSub, Nat.reduceLT, Nat.reduceLeDiff, Int.reduceLT, Int.reduceLE, Int.reduceEq, Int.reduceNeg, Int.reduceAdd, Int.reduceMul, Int.reduceSub, Int.reduceToNat, reduceCtorEq, dec_t, dec_f, burinlaw9_RunsOf_l0]
      rw [hx]
      simp -implicitDefEqProofs -dsimp (disch := omega) only [go_sem, Nat.reduceEqDiff, ↓reduceIte, Nat.reduceAdd, Nat.reduceMul, Nat.reduceSub, Nat.reduceLT, Nat.reduceLeDiff, Int.reduceLT, Int.reduceLE, Int.reduceEq, Int.reduceNeg, Int.reduceAdd, Int.reduceMul, Int.reduceSub, Int.reduceToNat, reduceCtorEq, dec_t, dec_f, ]
      refine wakes9_ct hp.bm hp.rz hp.ru hp.rf h1 fun H4 _ => ?_
      simp -implicitDefEqProofs -dsimp (disch := omega) only [go_sem, Nat.reduceEqDiff, ↓reduceIte, Nat.reduceAdd, Nat.reduceMul, Nat.reduceSub, Nat.reduceLT, Nat.reduceLeDiff, Int.reduceLT, Int.reduceLE, Int.reduceEq, Int.reduceNeg, Int.reduceAdd, Int.reduceMul, Int.reduceSub, Int.reduceToNat, reduceCtorEq, dec_t, dec_f, ]
theorem law_RunsOf {P : Prog} (hp : HasL9k P) (hg : P 123 = some burinlaw9_RunsOf) (H : Heap) (cs : List V) (x : TD.Ty (.sl 40 bmTD)) (h : Is H (.sl 40 bmTD) cs x) : Call P 123 [argV (.sl 40 bmTD) cs] H fun o _ => o = .ret (.bool true) := by
  obtain ⟨v, l, rfl, k1, k2, k3⟩ := is_bms h
  exact runsOfL hp hg k1 k2 k3
end Go.Ab
