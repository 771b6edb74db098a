/- Documents: all undone. Conditions: none. -/
import Derived.Test.YtnmjcajalnidmaaVn
set_option linter.all false
namespace Go.Ab
structure UnS where
  i : Nat
  bv : V
  PL : List MR
  SL : List St
  KL : List (V × List BR)
  vp : V
  vs : V
def UnS.fr (d : Nat) (x : UnS) : Fr := ⟨[(3, .ptr (some (d, 0))), (4, x.bv), (10, .int .i64 (x.i : Nat))], []⟩
structure UnS.ok (d : Nat) (T : List As) (x : UnS) (H : Heap) : Prop where
  i : x.i ≤ 64
  pl : x.PL.length ≤ 64
  kl : x.KL.length ≤ 90
  all : ∀ k ∈ x.KL, k.2.length ≤ 64
  sl : x.SL.length = min x.KL.length (64 - x.i)
  ch : Chain x.SL.reverse (x.PL.map MR.k) (x.KL.map kKey).reverse
  hs : Hs H (DocL d x.vp x.vs x.PL x.SL (Buf x.bv 1 x.KL.length (x.KL.map Prod.fst) :: (x.KL.flatMap KLas ++ T)))
set_option maxHeartbeats 1000000 in
theorem undo_loop {P : Prog} (hq : HasL2 P) (hp : HasDoc P) (hu : HasL20Undo P) {d : Nat} {T : List As} {H : Heap} {Qp : Post} {s' t'} (x : UnS) (h : x.ok d T H)
    (hQ : ∀ vp vs PL H' ex, Hs H' (DocL d vp vs PL [] T) → Qp (.exit 3) ⟨(3, .ptr (some (d, 0))) :: ex, []⟩ H') :
    loopL (Call P) [3, 4, 10] burinlaw20_DocUndo_l0 Qp s' t' (x.fr d) H := by
  refine loop_dec (σ := UnS) (fun x => 64 - x.i) (UnS.fr d) (UnS.ok d T) (fun x H1 K ok hn hxx hrr => ?_) x H h
  obtain ⟨i, bv, PL, SL, KL, vp, vs⟩ := x
  obtain ⟨hi, hpl, hkl90, hall, hsl, hch, h1⟩ := ok
  dsimp only at hi hpl hkl90 hall hsl hch h1 hn ⊢
  have hb0 : Hs H1 (Buf bv 1 KL.length (KL.map Prod.fst) :: DocL d vp vs PL SL (KL.flatMap KLas ++ T)) := docOut (A := [Buf bv 1 KL.length (KL.map Prod.fst)]) h1
  have hbf := Hs.bufr hb0
  by_cases he : i < 64 ∧ 0 < KL.length
  · obtain ⟨he1, he2⟩ := he
    obtain ⟨KL0, k, rfl⟩ : ∃ A b, KL = A ++ [b] := ⟨KL.dropLast, KL.getLast (by intro e; rw [e] at he2; cases he2), (List.dropLast_concat_getLast _).symm⟩
    obtain ⟨SL0, S, rfl⟩ : ∃ A b, SL = A ++ [b] := by
      have : SL ≠ [] := by rintro rfl; simp at hsl; omega
      exact ⟨SL.dropLast, SL.getLast this, (List.dropLast_concat_getLast _).symm⟩
    rw [show ((KL0 ++ [k]).map kKey).reverse = kKey k :: (KL0.map kKey).reverse by simp] at hch
    obtain ⟨c1, c2, c3⟩ := chain_pop hch
    have hkl : (KL0 ++ [k]).length = KL0.length + 1 := by simp
    have hsl0 : (SL0 ++ [S]).length = SL0.length + 1 := by simp
    obtain ⟨b, o, c, rfl⟩ := hbf.arr.at0 (by omega)
    obtain rfl : o = 0 := by
      rcases hbf with ⟨hv, _⟩ | ⟨_, _, _, hv, _⟩
      · cases hv
      · cases hv; rfl
    have hcap := hbf.arr.cap.1
    unfold UnS.fr
    simp -implicitDefEqProofs -dsimp (disch := omega) only [go_sem, Nat.reduceEqDiff, ↓reduceIte, Nat.reduceAdd, Nat.reduceMul, Nat.reduceSub, Nat.reduceLT, Nat.reduceLeDiff, Int.reduceLT, Int.reduceLE, Int.reduceEq, Int.reduceNeg, Int.reduceAdd, Int.reduceMul, Int.reduceSub, Int.reduceToNat, reduceCtorEq, dec_t, dec_f, burinlaw20_DocUndo_l0, hkl]
    refine undo_ct hq.bm hp h1 (by omega) (by simpa using c1) fun vp2 vs2 PL2 H2 e2 h2 => ?_
    have hk2 : kKey k = PL2.map MR.k := by rw [e2, c2]
    have hkl2 : k.2.length = PL2.length := by simpa [kKey] using congrArg List.length hk2
    have hk64 := hall k (by simp)
    have hb2 : Hs H2 (Buf (.sl (some (b, 0)) (KL0 ++ [k]).length c 1) 1 (KL0 ++ [k]).length ((KL0 ++ [k]).map Prod.fst) :: DocL d vp2 vs2 PL2 SL0 ((KL0 ++ [k]).flatMap KLas ++ T)) := docOut (A := [_]) h2
    have rl := hb2.bufr.arr.rd1 (i := KL0.length) (by omega)
    rw [List.map_append, List.getElem?_append_right (by simp), List.length_map, Nat.sub_self] at rl
    have rl : rd H2 none b (0 + KL0.length) = some k.1 := rl
    rw [Nat.zero_add] at rl
    have en : ((KL0.length + 1 : Nat) : Int) - 1 = ((KL0.length : Nat) : Int) := by omega
    have mk : Lst k.1 3 k.2.length (brCells k.2) ∈ (Buf (.sl (some (b, 0)) (KL0 ++ [k]).length c 1) 1 (KL0 ++ [k]).length ((KL0 ++ [k]).map Prod.fst) :: ((KL0 ++ [k]).flatMap KLas ++ T)) := by simp [KLas]
    obtain ⟨ka, kc, ke, hkv⟩ : ∃ a c e, k.1 = .sl a k.2.length c e := (h2.ownm (docT mk)).arr.shape
    rw [hkv] at rl
    simp -implicitDefEqProofs -dsimp (disch := omega) only [go_sem, Nat.reduceEqDiff, ↓reduceIte, Nat.reduceAdd, Nat.reduceMul, Nat.reduceSub, Nat.reduceLT, Nat.reduceLeDiff, Int.reduceLT, Int.reduceLE, Int.reduceEq, Int.reduceNeg, Int.reduceAdd, Int.reduceMul, Int.reduceSub, Int.reduceToNat, reduceCtorEq, dec_t, dec_f, hkl, en, w64, Int.toNat_natCast, Nat.mul_one, Nat.zero_add, rl]
    rw [← hkv]
    refine sameD_ct hq hp hu h2 (by omega) mk (fun r hr => by simp only [List.mem_cons, List.mem_append, List.mem_flatMap]; exact Or.inr (Or.inl ⟨k, by simp, by simp only [KLas, List.mem_cons, List.mem_map]; exact Or.inr ⟨r, hr, rfl⟩⟩)) hk2 fun H3 h3 => ?_
    simp -implicitDefEqProofs -dsimp (disch := omega) only [go_sem, Nat.reduceEqDiff, ↓reduceIte, Nat.reduceAdd, Nat.reduceMul, Nat.reduceSub, Nat.reduceLT, Nat.reduceLeDiff, Int.reduceLT, Int.reduceLE, Int.reduceEq, Int.reduceNeg, Int.reduceAdd, Int.reduceMul, Int.reduceSub, Int.reduceToNat, reduceCtorEq, dec_t, dec_f, hkl, en, w64, Int.toNat_natCast, cadd1]
    have hb3 : Hs H3 (Buf (.sl (some (b, 0)) (KL0 ++ [k]).length c 1) 1 (KL0 ++ [k]).length ((KL0 ++ [k]).map Prod.fst) :: DocL d vp2 vs2 PL2 SL0 ((KL0 ++ [k]).flatMap KLas ++ T)) := docOut (A := [_]) h3
    have hb4 := hb3.buf' (Same.refl _ _) (hb3.bufr.cut (k := KL0.length) (c' := c) (by omega) (by omega) (Nat.le_refl _)) fun _ h => Or.inl h
    have h5 := docIn (A := [Buf (.sl (some (b, 0)) KL0.length c 1) 1 KL0.length (((KL0 ++ [k]).map Prod.fst).take (KL0.length * 1))]) hb4
    have hn := hn ⟨i + 1, .sl (some (b, 0)) KL0.length c 1, PL2, SL0, KL0, vp2, vs2⟩ H3 (by dsimp only; omega) ⟨by dsimp only; omega, by dsimp only; omega, by dsimp only; omega, fun q hq => hall q (by simp [hq]), by dsimp only; omega, by dsimp only; rw [← hk2]; exact c3, ?_⟩
    · unfold UnS.fr at hn
      exact hn
    · dsimp only
      have e1 : ((KL0 ++ [k]).map Prod.fst).take (KL0.length * 1) = KL0.map Prod.fst := by rw [Nat.mul_one, List.map_append, List.take_left' (by simp)]
      rw [e1] at h5
      have h6 : Hs H3 (DocL d vp2 vs2 PL2 SL0 (KLas k ++ (Buf (.sl (some (b, 0)) KL0.length c 1) 1 KL0.length (KL0.map Prod.fst) :: (KL0.flatMap KLas ++ T)))) := by
        refine docPerm h5 ?_
        show (Buf _ 1 KL0.length (KL0.map Prod.fst) :: ((KL0 ++ [k]).flatMap KLas ++ T)).Perm _
        rw [List.flatMap_append, List.flatMap_cons, List.flatMap_nil, List.append_nil]
        refine List.Perm.trans (List.Perm.cons _ ?_) List.perm_middle.symm
        rw [← List.append_assoc]
        exact List.Perm.append_right _ List.perm_append_comm
      exact Hs.cutl (A := KLas k) (docOut (A := KLas k) h6)
  · have hs0 : SL = [] := by
      have : SL.length = 0 := by omega
      exact List.eq_nil_of_length_eq_zero this
    subst hs0
    have hQ := fun ex => hQ vp vs PL H1 ex (Hs.cutl (A := KL.flatMap KLas) (docOut (A := KL.flatMap KLas) (docOut (A := [Buf bv 1 KL.length (KL.map Prod.fst)]) h1).tail))
    obtain ⟨ba, bc, be, rfl⟩ := hbf.arr.shape
    rcases (show ¬ i < 64 ∨ (i < 64 ∧ KL.length = 0) by omega) with q | q
    · unfold UnS.fr
      simp -implicitDefEqProofs -dsimp (disch := omega) only [go_sem, Nat.reduceEqDiff, ↓reduceIte, Nat.reduceAdd, Nat.reduceMul, Nat.reduceSub, Nat.reduceLT, Nat.reduceLeDiff, Int.reduceLT, Int.reduceLE, Int.reduceEq, Int.reduceNeg, Int.reduceAdd, Int.reduceMul, Int.reduceSub, Int.reduceToNat, reduceCtorEq, dec_t, dec_f, burinlaw20_DocUndo_l0]
      rw [hxx]
      exact hQ _
    · unfold UnS.fr
      simp -implicitDefEqProofs -dsimp (disch := omega) only [go_sem, Nat.reduceEqDiff, ↓reduceIte, Nat.reduceAdd, Nat.reduceMul, Nat.reduceSub, Nat.reduceLT, Nat.reduceLeDiff, Int.reduceLT, Int.reduceLE, Int.reduceEq, Int.reduceNeg, Int.reduceAdd, Int.reduceMul, Int.reduceSub, Int.reduceToNat, reduceCtorEq, dec_t, dec_f, burinlaw20_DocUndo_l0]
      rw [hxx]
      exact hQ _
end Go.Ab
