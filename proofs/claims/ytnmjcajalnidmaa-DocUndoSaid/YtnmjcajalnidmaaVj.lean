/- Documents: all pages told; are they those? Conditions: none. -/
import Derived.Test.YtnmjcajalnidmaaVf
import Derived.Test.YtnmjcajalnidmaaC6
import Derived.Test.YtnmjcajalnidmaaPL20Undo
set_option linter.all false
namespace Go.Ab
theorem docPerm {H : Heap} {d : Nat} {vp vs : V} {PL : List MR} {SL : List St} {T T' : List As} (h : Hs H (DocL d vp vs PL SL T)) (k : T.Perm T') : Hs H (DocL d vp vs PL SL T') := by
  have e : ∀ T, DocL d vp vs PL SL T = (Cel d [vp, vs] :: Buf vp 1 PL.length (PL.map MR.c) :: Buf vs 1 SL.length (SL.map St.f) :: (PL.map MR.as ++ SL.flatMap (St.as d))) ++ T := fun T => by simp [DocL]
  rw [e] at h ⊢
  exact Hs.perm h (List.Perm.append_left _ k)
/-- A list of bitmaps of one's own, with what it stands on. -/
def BrL (rv : V) (BL : List BR) (T : List As) : List As := Lst rv 3 BL.length (brCells BL) :: (BL.map BR.as ++ T)
structure PgS where
  i : Nat
  rv : V
  BL : List BR
section
variable {P : Prog} {H : Heap} {T : List As} {Q : Out → Heap → Prop} {d : Nat} {vp vs : V} {PL : List MR} {SL : List St}
set_option maxHeartbeats 1000000 in
theorem pagesL_ct (hb : HasBm P) (hp : HasDoc P) (hu : HasL20Undo P) (hs : Hs H (DocL d vp vs PL SL T)) (hpl : PL.length ≤ 64)
    (hQ : ∀ rv BL H', BL.map BR.k = PL.map MR.k → Hs H' (DocL d vp vs PL SL (BrL rv BL T)) → Q (.ret rv) H') : Call P 148 [.ptr (some (d, 0))] H Q := by
  refine call_of hu.h_burinlaw20_pages rfl ?_
  simp -implicitDefEqProofs -dsimp (disch := omega) only [go_sem, Nat.reduceEqDiff, ↓reduceIte, Nat.reduceAdd, Nat.reduceMul, Nat.reduceSub, Nat.reduceLT, Nat.reduceLeDiff, Int.reduceLT, Int.reduceLE, Int.reduceEq, Int.reduceNeg, Int.reduceAdd, Int.reduceMul, Int.reduceSub, Int.reduceToNat, reduceCtorEq, dec_t, dec_f, ]
  have h1 : Hs H (DocL d vp vs PL SL (BrL (.sl none 0 0 0) [] T)) := docIn (A := [Lst (.sl none 0 0 0) 3 0 []]) (hs.lst (Same.refl _ _) (own_nil _ 3) fun _ h => h.elim)
  refine loop_dec (σ := PgS) (fun x => PL.length - x.i) (fun x => ⟨[(0, .ptr (some (d, 0))), (3, x.rv), (4, .int .i64 (x.i : Nat))], []⟩) (fun x H' => (x.i ≤ PL.length ∧ x.BL.map BR.k = (PL.map MR.k).take x.i) ∧ Hs H' (DocL d vp vs PL SL (BrL x.rv x.BL T))) (fun x H1 K ⟨⟨hi, hk⟩, h1⟩ hn hxx hrr => ?_) ⟨0, .sl none 0 0 0, []⟩ H ⟨⟨by simp, by simp⟩, h1⟩
  obtain ⟨i, rv, BL⟩ := x
  dsimp only at hi hk h1 hn ⊢
  have hbl : BL.length = i := by have := congrArg List.length hk; simp at this; omega
  simp -implicitDefEqProofs -dsimp (disch := omega) only [go_sem, Nat.reduceEqDiff, ↓reduceIte, Nat.reduceAdd, Nat.reduceMul, Nat.reduceSub, Nat.reduceLT, Nat.reduceLeDiff, Int.reduceLT, Int.reduceLE, Int.reduceEq, Int.reduceNeg, Int.reduceAdd, Int.reduceMul, Int.reduceSub, Int.reduceToNat, reduceCtorEq, dec_t, dec_f, burinlaw20_pages_l0]
  refine pages_ct hp h1 ?_
  by_cases he : i < PL.length
  · simp -implicitDefEqProofs -dsimp (disch := omega) only [go_sem, Nat.reduceEqDiff, ↓reduceIte, Nat.reduceAdd, Nat.reduceMul, Nat.reduceSub, Nat.reduceLT, Nat.reduceLeDiff, Int.reduceLT, Int.reduceLE, Int.reduceEq, Int.reduceNeg, Int.reduceAdd, Int.reduceMul, Int.reduceSub, Int.reduceToNat, reduceCtorEq, dec_t, dec_f, ]
    refine page_ct hb hp h1 (fun k => absurd (by omega) k) fun i' hi' e v H2 h2 => ?_
    obtain rfl : i' = i := by omega
    have hk' : (PL.map MR.k).take (i' + 1) = (PL.map MR.k).take i' ++ [PL[i'].k] := by
      rw [List.take_succ_eq_append_getElem (by simpa using hi')]; simp
    generalize PL[i'] = r at *
    obtain ⟨va, vn, vc, ve, hv⟩ : ∃ a n c e, v = V.sl a n c e := by obtain ⟨vb, kv⟩ := bmV h2; exact ⟨_, _, _, _, kv.val⟩
    have h3 := docOut (A := [BmA v r.w r.h r.p, Lst rv 3 BL.length (brCells BL)]) (docIn (A := [BmA v r.w r.h r.p]) h2)
    have h3 : Hs H2 (BmA v r.w r.h r.p :: Lst rv 3 BL.length (brCells BL) :: DocL d vp vs PL SL (BL.map BR.as ++ T)) := h3
    have h4 := h3.alloc (l := [.int .i64 r.w, .int .i64 r.h, v])
    have r4 := rd_bm h4 (List.mem_cons_self ..) 3 rfl
    rw [hv] at h4 r4 ⊢
    simp -implicitDefEqProofs -dsimp (disch := omega) only [go_sem, Nat.reduceEqDiff, ↓reduceIte, Nat.reduceAdd, Nat.reduceMul, Nat.reduceSub, Nat.reduceLT, Nat.reduceLeDiff, Int.reduceLT, Int.reduceLE, Int.reduceEq, Int.reduceNeg, Int.reduceAdd, Int.reduceMul, Int.reduceSub, Int.reduceToNat, reduceCtorEq, dec_t, dec_f, r4]
    rw [← hv] at h4 ⊢
    obtain ⟨rv', H4, ha, hoo, hsm, hf⟩ := app_one h4.p2.own (M := [.int .i64 r.w, .int .i64 r.h, v]) (m := 1) (eb := 40) rfl (by rw [hv]; rfl) (by omega) (by omega)
    have h5 := h4.p2.lst' hsm hoo hf
    rw [next_new] at ha
    rw [hv] at ha
    rw [hv]
    simp -implicitDefEqProofs -dsimp (disch := omega) only [go_sem, Nat.reduceEqDiff, ↓reduceIte, Nat.reduceAdd, Nat.reduceMul, Nat.reduceSub, Nat.reduceLT, Nat.reduceLeDiff, Int.reduceLT, Int.reduceLE, Int.reduceEq, Int.reduceNeg, Int.reduceAdd, Int.reduceMul, Int.reduceSub, Int.reduceToNat, reduceCtorEq, dec_t, dec_f, ha, w64, cadd1]
    refine hn ⟨i' + 1, rv', BL ++ [⟨v, r.w, r.h, r.p⟩]⟩ H4 (by dsimp only; omega) ⟨⟨by dsimp only; omega, ?_⟩, ?_⟩
    · dsimp only
      rw [hk', ← hk, List.map_append]; rfl
    · dsimp only
      have h6 := docIn (A := [Lst rv' 3 (BL.length + 1) (brCells BL ++ [.int .i64 r.w, .int .i64 r.h, v]), BmA v r.w r.h r.p]) h5.tail2
      unfold BrL
      rw [brCells_snoc]
      simp only [List.map_append, List.map_cons, List.map_nil, List.length_append, List.length_cons, List.length_nil]
      refine docPerm h6 (List.Perm.cons _ ?_)
      rw [List.append_assoc]
      show (BmA v r.w r.h r.p :: (BL.map BR.as ++ T)).Perm (BL.map BR.as ++ BmA v r.w r.h r.p :: T)
      exact List.perm_middle.symm
  · simp -implicitDefEqProofs -dsimp (disch := omega) only [go_sem, Nat.reduceEqDiff, ↓reduceIte, Nat.reduceAdd, Nat.reduceMul, Nat.reduceSub, Nat.reduceLT, Nat.reduceLeDiff, Int.reduceLT, Int.reduceLE, Int.reduceEq, Int.reduceNeg, Int.reduceAdd, Int.reduceMul, Int.reduceSub, Int.reduceToNat, reduceCtorEq, dec_t, dec_f, ]
    rw [hxx]
    simp -implicitDefEqProofs -dsimp (disch := omega) only [go_sem, Nat.reduceEqDiff, ↓reduceIte, Nat.reduceAdd, Nat.reduceMul, Nat.reduceSub, Nat.reduceLT, Nat.reduceLeDiff, Int.reduceLT, Int.reduceLE, Int.reduceEq, Int.reduceNeg, Int.reduceAdd, Int.reduceMul, Int.reduceSub, Int.reduceToNat, reduceCtorEq, dec_t, dec_f, ]
    obtain rfl : i = PL.length := by omega
    exact hQ rv BL H1 (by rw [hk, List.take_of_length_le (by simp)]) h1
end
end Go.Ab
