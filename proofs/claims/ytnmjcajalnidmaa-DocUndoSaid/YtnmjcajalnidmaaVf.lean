/- Documents: the law's wakes. Conditions: none. -/
import Derived.Test.YtnmjcajalnidmaaVe
set_option linter.all false
namespace Go.Ab
theorem arr_celD {H : Heap} {b : Nat} {ws : List Nat} {l : List V} {R : List As} (h : Hs H R) (hm : Cel b l ∈ R) (e : l = u64s ws) : Arr H (.sl (some (b, 0)) ws.length ws.length 1) 1 ws.length (u64s ws) := by
  subst e; exact Or.inr ⟨b, 0, ws.length, _, true, rfl, h.celm hm, by simp [u64s], by rw [List.drop_zero, List.take_of_length_le (by simp [u64s])], Nat.le_refl _, (h.ofmem hm).celt⟩
theorem docDrop {H : Heap} {d : Nat} {vp vs : V} {PL : List MR} {SL : List St} {T : List As} (h : Hs H (DocL d vp vs PL SL T)) : Hs H T :=
  Hs.cutl (A := SL.flatMap (St.as d)) (Hs.cutl (A := PL.map MR.as) h.tail.tail.tail)
section
variable {P : Prog} {H : Heap} {T : List As} {Q : Out → Heap → Prop}
set_option maxRecDepth 4000 in
theorem wakes20_ct (hb : HasBm P) (hz : HasRz P) (hp : HasDoc P) (hs : Hs H T) (hQ : ∀ H', Hs H' T → Q (.ret (.bool true)) H') : Call P 146 [] H Q := by
  refine call_of hp.h_burinlaw20_wakes rfl ?_
  simp -implicitDefEqProofs -dsimp (disch := omega) only [go_sem, Nat.reduceEqDiff, ↓reduceIte, Nat.reduceAdd, Nat.reduceMul, Nat.reduceSub, Nat.reduceLT, Nat.reduceLeDiff, Int.reduceLT, Int.reduceLE, Int.reduceEq, Int.reduceNeg, Int.reduceAdd, Int.reduceMul, Int.reduceSub, Int.reduceToNat, reduceCtorEq, dec_t, dec_f, ]
  refine docNew_ct hp hs fun d H1 h1 => ?_
  simp -implicitDefEqProofs -dsimp (disch := omega) only [go_sem, Nat.reduceEqDiff, ↓reduceIte, Nat.reduceAdd, Nat.reduceMul, Nat.reduceSub, Nat.reduceLT, Nat.reduceLeDiff, Int.reduceLT, Int.reduceLE, Int.reduceEq, Int.reduceNeg, Int.reduceAdd, Int.reduceMul, Int.reduceSub, Int.reduceToNat, reduceCtorEq, dec_t, dec_f, ]
  refine newPage_ct hb hp (w := 3) (h := 2) h1 (by decide) (by decide) (by simp) (by simp) (fun k => absurd (by decide) k) (fun _ k => by simp at k) fun _ _ vp vs m cd cn H2 h2 => ?_
  have h2 : Hs H2 (DocL d vp vs [⟨m, 3, 2, fun _ _ => false⟩] [.new cd cn 0] T) := h2
  simp -implicitDefEqProofs -dsimp (disch := omega) only [go_sem, Nat.reduceEqDiff, ↓reduceIte, Nat.reduceAdd, Nat.reduceMul, Nat.reduceSub, Nat.reduceLT, Nat.reduceLeDiff, Int.reduceLT, Int.reduceLE, Int.reduceEq, Int.reduceNeg, Int.reduceAdd, Int.reduceMul, Int.reduceSub, Int.reduceToNat, reduceCtorEq, dec_t, dec_f, List.length_nil]
  refine docSet_ct hb hp (page := 0) (x := 1) (y := 0) (bit := 1) h2 (by simp) (fun k => absurd (by simp) k) (fun i hi e k => ?_) fun i hi e k cb cd2 cp v vs2 H3 h3 => ?_
  · obtain rfl : i = 0 := by omega
    exact absurd (by decide : setR 3 2 1 0 1 = 0) k
  obtain rfl : i = 0 := by omega
  generalize hpq : setP 3 2 (fun _ _ => false) 1 0 1 = pq
  have h3 : Hs H3 (DocL d vp vs2 [⟨m, 3, 2, pq⟩] [.new cd cn 0, .put cb cd2 cp v 3 2 (fun _ _ => false) 0] T) := by rw [← hpq]; exact h3
  simp -implicitDefEqProofs -dsimp (disch := omega) only [go_sem, Nat.reduceEqDiff, ↓reduceIte, Nat.reduceAdd, Nat.reduceMul, Nat.reduceSub, Nat.reduceLT, Nat.reduceLeDiff, Int.reduceLT, Int.reduceLE, Int.reduceEq, Int.reduceNeg, Int.reduceAdd, Int.reduceMul, Int.reduceSub, Int.reduceToNat, reduceCtorEq, dec_t, dec_f, ]
  refine page_ct hb hp (page := 0) h3 (fun k => absurd (by simp) k) fun i hi e v2 H4 h4 => ?_
  obtain rfl : i = 0 := by omega
  have h4 : Hs H4 (BmA v2 3 2 pq :: DocL d vp vs2 [⟨m, 3, 2, pq⟩] [.new cd cn 0, .put cb cd2 cp v 3 2 (fun _ _ => false) 0] T) := h4
  obtain ⟨va, vn, vc, ve, hv⟩ : ∃ a n c e, v2 = V.sl a n c e := by obtain ⟨vb, kv⟩ := bmV h4; exact ⟨_, _, _, _, kv.val⟩
  have h5 := h4.alloc (l := [.int .i64 3, .int .i64 2, v2])
  have r5 := rd_bm h5 (List.mem_cons_self ..) 3 rfl
  have h6 := h5.alloc (l := [.int .u64 4611686018427387904, .int .u64 0])
  rw [next_new] at h6
  rw [hv] at h5 r5 h6 ⊢
  simp -implicitDefEqProofs -dsimp (disch := omega) only [go_sem, Nat.reduceEqDiff, ↓reduceIte, Nat.reduceAdd, Nat.reduceMul, Nat.reduceSub, Nat.reduceLT, Nat.reduceLeDiff, Int.reduceLT, Int.reduceLE, Int.reduceEq, Int.reduceNeg, Int.reduceAdd, Int.reduceMul, Int.reduceSub, Int.reduceToNat, reduceCtorEq, dec_t, dec_f, List.getElem_cons_zero, show ((3 : Nat) : Int) = 3 from rfl, show ((2 : Nat) : Int) = 2 from rfl, r5]
  rw [← hv] at h5 h6 ⊢
  generalize (H4.new _).new _ = H6 at *
  generalize H4.next + 1 = b6 at *
  generalize H4.next = b5 at *
  refine eqb_ct hz h6 (w1 := 3) (h1 := 2) (w2 := 3) (h2 := 2) ((h6.ofmem (A := BmA v2 3 2 pq) (by simp)).bml.own.arr) (arr_celD (ws := [4611686018427387904, 0]) h6 (List.mem_cons_self ..) rfl) (by simp [Wds_length]; decide) fun H7 h7 _ => ?_
  rw [decide_eq_true (show (3 : Int) = 3 ∧ (2 : Int) = 2 ∧ Wds 3 2 pq = [4611686018427387904, 0] from ⟨rfl, rfl, by rw [← hpq]; decide +kernel⟩)]
  have h8 := docIn (A := [Cel b6 [.int .u64 4611686018427387904, .int .u64 0], Cel b5 [.int .i64 3, .int .i64 2, v2], BmA v2 3 2 pq]) h7
  simp -implicitDefEqProofs -dsimp (disch := omega) only [go_sem, Nat.reduceEqDiff, ↓reduceIte, Nat.reduceAdd, Nat.reduceMul, Nat.reduceSub, Nat.reduceLT, Nat.reduceLeDiff, Int.reduceLT, Int.reduceLE, Int.reduceEq, Int.reduceNeg, Int.reduceAdd, Int.reduceMul, Int.reduceSub, Int.reduceToNat, reduceCtorEq, dec_t, dec_f, ]
  refine undo_ct hb hp (SL := [.new cd cn 0]) (S := .put cb cd2 cp v 3 2 (fun _ _ => false) 0) h8 (by simp) (by simp [St.may]) fun vp3 vs3 PL3 H8 e8 h9 => ?_
  have hl3 : PL3.length = 1 := by simpa [St.back] using congrArg List.length e8
  simp -implicitDefEqProofs -dsimp (disch := omega) only [go_sem, Nat.reduceEqDiff, ↓reduceIte, Nat.reduceAdd, Nat.reduceMul, Nat.reduceSub, Nat.reduceLT, Nat.reduceLeDiff, Int.reduceLT, Int.reduceLE, Int.reduceEq, Int.reduceNeg, Int.reduceAdd, Int.reduceMul, Int.reduceSub, Int.reduceToNat, reduceCtorEq, dec_t, dec_f, ]
  refine undo_ct hb hp (SL := []) (S := .new cd cn 0) h9 (by simp) (by simp [St.may, hl3]) fun vp4 vs4 PL4 H9 e9 h10 => ?_
  have hl4 : PL4.length = 0 := by simpa [St.back] using congrArg List.length e9
  simp -implicitDefEqProofs -dsimp (disch := omega) only [go_sem, Nat.reduceEqDiff, ↓reduceIte, Nat.reduceAdd, Nat.reduceMul, Nat.reduceSub, Nat.reduceLT, Nat.reduceLeDiff, Int.reduceLT, Int.reduceLE, Int.reduceEq, Int.reduceNeg, Int.reduceAdd, Int.reduceMul, Int.reduceSub, Int.reduceToNat, reduceCtorEq, dec_t, dec_f, ]
  refine undo0_ct hp h10 ?_
  simp -implicitDefEqProofs -dsimp (disch := omega) only [go_sem, Nat.reduceEqDiff, ↓reduceIte, Nat.reduceAdd, Nat.reduceMul, Nat.reduceSub, Nat.reduceLT, Nat.reduceLeDiff, Int.reduceLT, Int.reduceLE, Int.reduceEq, Int.reduceNeg, Int.reduceAdd, Int.reduceMul, Int.reduceSub, Int.reduceToNat, reduceCtorEq, dec_t, dec_f, ]
  refine pages_ct hp h10 ?_
  rw [hl4]
  simp -implicitDefEqProofs -dsimp (disch := omega) only [go_sem, Nat.reduceEqDiff, ↓reduceIte, Nat.reduceAdd, Nat.reduceMul, Nat.reduceSub, Nat.reduceLT, Nat.reduceLeDiff, Int.reduceLT, Int.reduceLE, Int.reduceEq, Int.reduceNeg, Int.reduceAdd, Int.reduceMul, Int.reduceSub, Int.reduceToNat, reduceCtorEq, dec_t, dec_f, ]
  exact hQ H9 (docDrop (docOut (A := [Cel b6 [.int .u64 4611686018427387904, .int .u64 0], Cel b5 [.int .i64 3, .int .i64 2, v2], BmA v2 3 2 pq]) h10).tail.tail.tail)
end
end Go.Ab
