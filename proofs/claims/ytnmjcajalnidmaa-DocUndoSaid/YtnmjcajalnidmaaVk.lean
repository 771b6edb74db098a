/- Documents: are the pages those? Conditions: none. -/
import Derived.Test.YtnmjcajalnidmaaVj
import Derived.Test.YtnmjcajalnidmaaC3
set_option linter.all false
namespace Go.Ab
theorem br_rd {H : Heap} {b o c : Nat} {BL : List BR} (h : Arr H (.sl (some (b, o)) BL.length c 3) 3 BL.length (brCells BL)) {i : Nat} (hi : i < BL.length) : rd H (some 3) b (o + i * 3) = some (.agg BL[i].cs) := by
  rw [h.agg hi, brCells_at hi]
section
variable {P : Prog} {H : Heap} {T : List As} {Q : Out → Heap → Prop} {d : Nat} {vp vs : V} {PL : List MR} {SL : List St}
set_option maxHeartbeats 1000000 in
theorem sameD_ct (hq : HasL2 P) (hp : HasDoc P) (hu : HasL20Undo P) {lv : V} {BL : List BR} (hs : Hs H (DocL d vp vs PL SL T)) (hpl : PL.length ≤ 64) (hlv : Lst lv 3 BL.length (brCells BL) ∈ T) (hm : ∀ r ∈ BL, r.as ∈ T) (hk : BL.map BR.k = PL.map MR.k)
    (hQ : ∀ H', Hs H' (DocL d vp vs PL SL T) → Q (.ret (.bool true)) H') : Call P 149 [.ptr (some (d, 0)), lv] H Q := by
  have hl : BL.length = PL.length := by simpa using congrArg List.length hk
  have arr := fun {H' : Heap} {R : List As} (h : Hs H' R) (hm : Lst lv 3 BL.length (brCells BL) ∈ R) => (h.ownm hm).arr
  obtain ⟨la, lc, le, hlvs⟩ := (arr hs (docT hlv)).shape
  refine call_of hu.h_burinlaw20_same rfl ?_
  rw [hlvs]
  simp -implicitDefEqProofs -dsimp (disch := omega) only [go_sem, Nat.reduceEqDiff, ↓reduceIte, Nat.reduceAdd, Nat.reduceMul, Nat.reduceSub, Nat.reduceLT, Nat.reduceLeDiff, Int.reduceLT, Int.reduceLE, Int.reduceEq, Int.reduceNeg, Int.reduceAdd, Int.reduceMul, Int.reduceSub, Int.reduceToNat, reduceCtorEq, dec_t, dec_f, ]
  refine pages_ct hp hs ?_
  rw [← hl]
  simp -implicitDefEqProofs -dsimp (disch := omega) only [go_sem, Nat.reduceEqDiff, ↓reduceIte, Nat.reduceAdd, Nat.reduceMul, Nat.reduceSub, Nat.reduceLT, Nat.reduceLeDiff, Int.reduceLT, Int.reduceLE, Int.reduceEq, Int.reduceNeg, Int.reduceAdd, Int.reduceMul, Int.reduceSub, Int.reduceToNat, reduceCtorEq, dec_t, dec_f, ]
  rw [← hlvs]
  refine loop_cnt BL.length (fun i => ⟨[(0, .ptr (some (d, 0))), (1, lv), (5, .int .i64 (i : Nat))], []⟩) (fun i H' => Hs H' (DocL d vp vs PL SL T)) (fun i H1 K hi h1 hn hxx hrr => ?_) 0 H (by omega) hs
  by_cases he : i < BL.length
  · obtain ⟨lb, lo, lc', hlv2⟩ := (arr h1 (docT hlv)).at0 (by omega)
    rw [hlv2]
    simp -implicitDefEqProofs -dsimp (disch := omega) only [go_sem, Nat.reduceEqDiff, ↓reduceIte, Nat.reduceAdd, Nat.reduceMul, Nat.reduceSub, Nat.reduceLT, Nat.reduceLeDiff, Int.reduceLT, Int.reduceLE, Int.reduceEq, Int.reduceNeg, Int.reduceAdd, Int.reduceMul, Int.reduceSub, Int.reduceToNat, reduceCtorEq, dec_t, dec_f, burinlaw20_same_l0]
    refine page_ct hq.bm hp h1 (fun k => absurd (by omega) k) fun i' hi' e v H2 h2 => ?_
    obtain rfl : i' = i := by omega
    have hbk : BL[i'].k = PL[i'].k := by
      have := congrArg (·[i']?) hk
      simpa [List.getElem?_eq_getElem he, List.getElem?_eq_getElem hi'] using this
    have hbm := hm BL[i'] (List.getElem_mem _)
    have rl := fun {H' : Heap} {R : List As} (h : Hs H' R) (hm : Lst lv 3 BL.length (brCells BL) ∈ R) => br_rd (by have := arr h hm; rwa [hlv2] at this) he
    generalize BL[i'] = br at *
    generalize PL[i'] = r at *
    obtain ⟨m, w, h, p⟩ := r
    obtain ⟨v2, w2, h2', p2⟩ := br
    obtain ⟨rfl, rfl, rfl⟩ : w2 = w ∧ h2' = h ∧ p2 = p := by simpa [BR.k, MR.k] using hbk
    dsimp only at h2 ⊢
    have hbm : BmA v2 w2 h2' p2 ∈ T := hbm
    obtain ⟨va, vn, vc, ve, hv⟩ : ∃ a n c e, v = V.sl a n c e := by obtain ⟨vb, kv⟩ := bmV h2; exact ⟨_, _, _, _, kv.val⟩
    have h3 := h2.alloc (l := [.int .i64 w2, .int .i64 h2', v])
    have r3 := rd_bm h3 (List.mem_cons_self ..) 3 rfl
    have rl3 := rl h3 (by simp [docT hlv])
    rw [hv] at h3 r3 rl3 ⊢
    simp -implicitDefEqProofs -dsimp (disch := omega) only [go_sem, Nat.reduceEqDiff, ↓reduceIte, Nat.reduceAdd, Nat.reduceMul, Nat.reduceSub, Nat.reduceLT, Nat.reduceLeDiff, Int.reduceLT, Int.reduceLE, Int.reduceEq, Int.reduceNeg, Int.reduceAdd, Int.reduceMul, Int.reduceSub, Int.reduceToNat, reduceCtorEq, dec_t, dec_f, r3, Int.toNat_natCast, rl3, d_gre]
    rw [← hv] at h3 ⊢
    generalize H2.new _ = H3 at *
    generalize H2.next = b6 at *
    refine eqb_ct hq.rz h3 (w1 := w2) (h1 := h2') (w2 := w2) (h2 := h2') (h3.bmarr (v := v) (w := w2) (h := h2') (p := p2) (by simp)) (h3.bmarr (v := v2) (w := w2) (h := h2') (p := p2) (by simp [docT hbm])) ?_ fun H4 h4 _ => ?_
    · have hz := bmSz0 h3.p1
      rw [Wds_length]
      have := wds_le (w := w2) (h := h2') hz.2.2 hz.1
      omega
    rw [decide_eq_true ⟨rfl, rfl, rfl⟩]
    have c6 := rd_s h4.cel
    simp -implicitDefEqProofs -dsimp (disch := omega) only [go_sem, Nat.reduceEqDiff, ↓reduceIte, Nat.reduceAdd, Nat.reduceMul, Nat.reduceSub, Nat.reduceLT, Nat.reduceLeDiff, Int.reduceLT, Int.reduceLE, Int.reduceEq, Int.reduceNeg, Int.reduceAdd, Int.reduceMul, Int.reduceSub, Int.reduceToNat, reduceCtorEq, dec_t, dec_f, c6, d_gre]
    refine overw_ct hq h4.p1.bml ?_ fun H5 h5 => ?_
    · have hz := bmSz0 h4.p1
      rw [Wds_length]
      have := wds_le (w := w2) (h := h2') hz.2.2 hz.1
      omega
    simp -implicitDefEqProofs -dsimp (disch := omega) only [go_sem, Nat.reduceEqDiff, ↓reduceIte, Nat.reduceAdd, Nat.reduceMul, Nat.reduceSub, Nat.reduceLT, Nat.reduceLeDiff, Int.reduceLT, Int.reduceLE, Int.reduceEq, Int.reduceNeg, Int.reduceAdd, Int.reduceMul, Int.reduceSub, Int.reduceToNat, reduceCtorEq, dec_t, dec_f, w64, cadd1]
    rw [← hlv2]
    exact hn he H5 h5.tail
  · obtain rfl : i = BL.length := by omega
    rw [hlvs]
    simp -implicitDefEqProofs -dsimp (disch := omega) only [go_sem, Nat.reduceEqDiff, ↓reduceIte, Nat.reduceAdd, Nat.reduceMul, Nat.reduceSub, Nat.reduceLT, Nat.reduceLeDiff, Int.reduceLT, Int.reduceLE, Int.reduceEq, Int.reduceNeg, Int.reduceAdd, Int.reduceMul, Int.reduceSub, Int.reduceToNat, reduceCtorEq, dec_t, dec_f, burinlaw20_same_l0]
    rw [hxx]
    simp -implicitDefEqProofs -dsimp (disch := omega) only [go_sem, Nat.reduceEqDiff, ↓reduceIte, Nat.reduceAdd, Nat.reduceMul, Nat.reduceSub, Nat.reduceLT, Nat.reduceLeDiff, Int.reduceLT, Int.reduceLE, Int.reduceEq, Int.reduceNeg, Int.reduceAdd, Int.reduceMul, Int.reduceSub, Int.reduceToNat, reduceCtorEq, dec_t, dec_f, ]
    refine page_ct hq.bm hp h1 (fun _ H2 h2 => ?_) fun i' hi' e => by omega
    have g2 := h2.alloc (l := [.int .i64 0, .int .i64 0, .sl none 0 0 0])
    simp -implicitDefEqProofs -dsimp (disch := omega) only [go_sem, Nat.reduceEqDiff, ↓reduceIte, Nat.reduceAdd, Nat.reduceMul, Nat.reduceSub, Nat.reduceLT, Nat.reduceLeDiff, Int.reduceLT, Int.reduceLE, Int.reduceEq, Int.reduceNeg, Int.reduceAdd, Int.reduceMul, Int.reduceSub, Int.reduceToNat, reduceCtorEq, dec_t, dec_f, ]
    generalize H2.new _ = H3 at *
    generalize H2.next = b8 at *
    refine page_ct hq.bm hp (docIn (A := [Cel b8 _]) g2) (fun _ H4 h4 => ?_) fun i' hi' e => by omega
    have g4 := h4.alloc (l := [.int .i64 0, .int .i64 0, .sl none 0 0 0])
    simp -implicitDefEqProofs -dsimp (disch := omega) only [go_sem, Nat.reduceEqDiff, ↓reduceIte, Nat.reduceAdd, Nat.reduceMul, Nat.reduceSub, Nat.reduceLT, Nat.reduceLeDiff, Int.reduceLT, Int.reduceLE, Int.reduceEq, Int.reduceNeg, Int.reduceAdd, Int.reduceMul, Int.reduceSub, Int.reduceToNat, reduceCtorEq, dec_t, dec_f, ]
    exact hQ _ (docOut g4.tail).tail
end
end Go.Ab
