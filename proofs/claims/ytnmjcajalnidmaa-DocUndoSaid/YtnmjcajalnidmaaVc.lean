/- Documents: a new page; a page told. Conditions: none. -/
import Derived.Test.YtnmjcajalnidmaaVb
set_option linter.all false
namespace Go.Ab
theorem permN (g : Nat → As) {a b : List Nat} (k : a.Perm b) (W : List As) : (a.map g ++ W).Perm (b.map g ++ W) := (k.map g).append_right W
theorem perm_np (a b c d e f : As) (X Y T : List As) : (a :: b :: c :: d :: e :: f :: (X ++ (Y ++ T))).Perm (e :: a :: f :: (X ++ [c] ++ (Y ++ (d :: b :: T)))) := by
  have h1 : (a :: b :: c :: d :: e :: f :: (X ++ (Y ++ T))).Perm (e :: a :: f :: c :: d :: b :: (X ++ (Y ++ T))) :=
    permN (fun n => match n with | 0 => a | 1 => b | 2 => c | 3 => d | 4 => e | _ => f) (by decide : [0, 1, 2, 3, 4, 5].Perm [4, 0, 5, 2, 3, 1]) _
  refine h1.trans (List.Perm.cons _ (List.Perm.cons _ (List.Perm.cons _ ?_)))
  have e1 : X ++ [c] ++ (Y ++ (d :: b :: T)) = X ++ c :: (Y ++ d :: b :: T) := by simp
  rw [e1]
  refine (List.Perm.cons c ?_).trans List.perm_middle.symm
  have h2 : (d :: b :: (X ++ (Y ++ T))).Perm (X ++ (d :: b :: (Y ++ T))) := ((List.Perm.cons d List.perm_middle.symm).trans List.perm_middle.symm)
  exact h2.trans (List.Perm.append_left X ((List.Perm.cons d List.perm_middle.symm).trans List.perm_middle.symm))
section
variable {P : Prog} {H : Heap} {T : List As} {Q : Out → Heap → Prop} {d : Nat} {vp vs : V} {PL : List MR} {SL : List St}
theorem newPage_ct (hb : HasBm P) (hp : HasDoc P) {w h : Int} (hs : Hs H (DocL d vp vs PL SL T)) (hw : i64r w) (hh : i64r h) (hl : SL.length ≤ 64) (hpl : PL.length ≤ 64)
    (h1 : ¬ sizeOk w h → ∀ H', Hs H' (DocL d vp vs PL SL T) → Q (.ret (.tup [.int .i64 0, .int .i64 180])) H')
    (h2 : sizeOk w h → PL.length = 64 → ∀ H', Hs H' (DocL d vp vs PL SL T) → Q (.ret (.tup [.int .i64 0, .int .i64 181])) H')
    (h3 : sizeOk w h → PL.length < 64 → ∀ vp' vs' m cd cn H', Hs H' (DocL d vp' vs' (PL ++ [⟨m, w.toNat, h.toNat, fun _ _ => false⟩]) (push SL (.new cd cn PL.length)) T) → Q (.ret (.tup [.int .i64 PL.length, .int .i64 0])) H') :
    Call P 133 [.ptr (some (d, 0)), .int .i64 w, .int .i64 h] H Q := by
  refine call_of hp.h_doc_Doc_NewPage rfl ?_
  have g1 := hs.alloc (l := [.ptr (some (d, 0))])
  simp -implicitDefEqProofs -dsimp (disch := omega) only [go_sem, Nat.reduceEqDiff, ↓reduceIte, Nat.reduceAdd, Nat.reduceMul, Nat.reduceSub, Nat.reduceLT, Nat.reduceLeDiff, Int.reduceLT, Int.reduceLE, Int.reduceEq, Int.reduceNeg, Int.reduceAdd, Int.reduceMul, Int.reduceSub, Int.reduceToNat, reduceCtorEq, dec_t, dec_f, ]
  generalize H.new _ = H1 at *
  generalize H.next = b3 at *
  refine new_ct hb g1 hw hh (fun k => ?_) fun k m H2 g2 _ => ?_
  · simp -implicitDefEqProofs -dsimp (disch := omega) only [go_sem, Nat.reduceEqDiff, ↓reduceIte, Nat.reduceAdd, Nat.reduceMul, Nat.reduceSub, Nat.reduceLT, Nat.reduceLeDiff, Int.reduceLT, Int.reduceLE, Int.reduceEq, Int.reduceNeg, Int.reduceAdd, Int.reduceMul, Int.reduceSub, Int.reduceToNat, reduceCtorEq, dec_t, dec_f, ]
    refine told_ct hp ?_
    simp -implicitDefEqProofs -dsimp (disch := omega) only [go_sem, Nat.reduceEqDiff, ↓reduceIte, Nat.reduceAdd, Nat.reduceMul, Nat.reduceSub, Nat.reduceLT, Nat.reduceLeDiff, Int.reduceLT, Int.reduceLE, Int.reduceEq, Int.reduceNeg, Int.reduceAdd, Int.reduceMul, Int.reduceSub, Int.reduceToNat, reduceCtorEq, dec_t, dec_f, ]
    exact h1 k H1 g1.tail
  have c3 := rd_s g2.p1.cel
  have cd := rd_s (Hs.p2 g2).cel
  have g3 := g2.alloc (l := [.int .i64 PL.length])
  have bp := (Hs.p3 g2).bufr
  obtain ⟨a, c, e, rfl⟩ := bp.arr.shape
  simp -implicitDefEqProofs -dsimp (disch := omega) only [go_sem, Nat.reduceEqDiff, ↓reduceIte, Nat.reduceAdd, Nat.reduceMul, Nat.reduceSub, Nat.reduceLT, Nat.reduceLeDiff, Int.reduceLT, Int.reduceLE, Int.reduceEq, Int.reduceNeg, Int.reduceAdd, Int.reduceMul, Int.reduceSub, Int.reduceToNat, reduceCtorEq, dec_t, dec_f, c3, cd]
  generalize H2.new _ = H3 at *
  generalize H2.next = b10 at *
  have c3 := rd_s (Hs.p2 g3).cel
  have cd := rd_s (Hs.p3 g3).cel
  have c10 := rd_s g3.cel
  by_cases h64 : PL.length = 64
  · simp -implicitDefEqProofs -dsimp (disch := omega) only [go_sem, Nat.reduceEqDiff, ↓reduceIte, Nat.reduceAdd, Nat.reduceMul, Nat.reduceSub, Nat.reduceLT, Nat.reduceLeDiff, Int.reduceLT, Int.reduceLE, Int.reduceEq, Int.reduceNeg, Int.reduceAdd, Int.reduceMul, Int.reduceSub, Int.reduceToNat, reduceCtorEq, dec_t, dec_f, c10]
    exact h2 k h64 H3 g3.tail.tail.tail
  obtain ⟨v2, H4, ha, hb', hsm, hf⟩ := app_buf1 (Hs.p4 g3).bufr (M := [.ptr (some (m, 0))]) (m := 1) (eb := 8) rfl rfl (by omega) (by omega)
  have g4 := (Hs.p4 g3).buf' hsm hb' hf
  obtain ⟨a2, ac2, e2, rfl⟩ := g4.bufr.arr.shape
  obtain ⟨H5, ew, g5⟩ := g4.sto 4 (o := 0) (vs := [.sl a2 (PL.length + 1) ac2 e2]) rfl (by simp) rfl
  simp -implicitDefEqProofs -dsimp (disch := omega) only [go_sem, Nat.reduceEqDiff, ↓reduceIte, Nat.reduceAdd, Nat.reduceMul, Nat.reduceSub, Nat.reduceLT, Nat.reduceLeDiff, Int.reduceLT, Int.reduceLE, Int.reduceEq, Int.reduceNeg, Int.reduceAdd, Int.reduceMul, Int.reduceSub, Int.reduceToNat, reduceCtorEq, dec_t, dec_f, c10, c3, cd, ha, d_gre]
  have c3' := rd_s (g4.celm (b := b3) (l := [.ptr (some (d, 0))]) (by simp))
  refine aft_intro (t := tag _) (by simp [rechecks, recheck, fresh, Fr.get, Fr.put, look, step, opd, c3']) ?_
  simp -implicitDefEqProofs -dsimp (disch := omega) only [go_sem, Nat.reduceEqDiff, ↓reduceIte, Nat.reduceAdd, Nat.reduceMul, Nat.reduceSub, Nat.reduceLT, Nat.reduceLeDiff, Int.reduceLT, Int.reduceLE, Int.reduceEq, Int.reduceNeg, Int.reduceAdd, Int.reduceMul, Int.reduceSub, Int.reduceToNat, reduceCtorEq, dec_t, dec_f, ew]
  have g6 : Hs H5 (DocL d (.sl a2 (PL.length + 1) ac2 e2) vs (PL ++ [⟨m, w.toNat, h.toNat, fun _ _ => false⟩]) SL ((St.new b3 b10 PL.length).as d ++ T)) := by
    unfold DocL
    simp only [List.map_append, List.map_cons, List.map_nil, List.length_append, List.length_cons, List.length_nil]
    exact Hs.perm g5 (perm_np _ _ _ _ _ _ _ _ _)
  have c3' := rd_s (g5.celm (b := b3) (l := [.ptr (some (d, 0))]) (by simp))
  simp -implicitDefEqProofs -dsimp (disch := omega) only [go_sem, Nat.reduceEqDiff, ↓reduceIte, Nat.reduceAdd, Nat.reduceMul, Nat.reduceSub, Nat.reduceLT, Nat.reduceLeDiff, Int.reduceLT, Int.reduceLE, Int.reduceEq, Int.reduceNeg, Int.reduceAdd, Int.reduceMul, Int.reduceSub, Int.reduceToNat, reduceCtorEq, dec_t, dec_f, c3']
  refine done_ct hp (S := .new b3 b10 PL.length) g6 hl fun vs' H6 h7 => ?_
  have c10 := rd_s (h7.celm (b := b10) (l := [.int .i64 PL.length]) (by simp [DocL, push, St.as]))
  simp -implicitDefEqProofs -dsimp (disch := omega) only [go_sem, Nat.reduceEqDiff, ↓reduceIte, Nat.reduceAdd, Nat.reduceMul, Nat.reduceSub, Nat.reduceLT, Nat.reduceLeDiff, Int.reduceLT, Int.reduceLE, Int.reduceEq, Int.reduceNeg, Int.reduceAdd, Int.reduceMul, Int.reduceSub, Int.reduceToNat, reduceCtorEq, dec_t, dec_f, c10]
  exact h3 k (by omega) _ _ _ _ _ H6 h7
end
end Go.Ab
