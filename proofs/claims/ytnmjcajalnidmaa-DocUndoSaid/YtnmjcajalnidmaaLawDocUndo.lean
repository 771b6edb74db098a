/- The law DocUndo. Conditions: none.  -/
import Derived.Test.YtnmjcajalnidmaaVo
import Derived.Test.YtnmjcajalnidmaaVm
import Derived.Test.YtnmjcajalnidmaaVh
set_option linter.all false
namespace Go.Ab
structure DuS where
  i : Nat
  bv : V
  PL : List MR
  SL : List St
  KL : List (V × List BR)
  vp : V
  vs : V
def DuS.fr (p d : Nat) (x : DuS) : Fr := ⟨[(1, .ptr (some (p, 0))), (3, .ptr (some (d, 0))), (4, x.bv), (5, .int .i64 (x.i : Nat))], []⟩
structure DuS.ok (d n : Nat) (T : List As) (x : DuS) (H : Heap) : Prop where
  i : x.i ≤ n
  i2 : x.i ≤ 90
  pl : x.PL.length ≤ 6
  kl : x.KL.length ≤ x.i
  all : ∀ k ∈ x.KL, k.2.length ≤ 64
  sl : x.SL.length = min x.KL.length 64
  ch : Chain x.SL.reverse (x.PL.map MR.k) (x.KL.map kKey).reverse
  hs : Hs H (DocL d x.vp x.vs x.PL x.SL (BkA x.bv x.KL T))
theorem nine {l : List Int} (h : l.length = 9) : ∃ a b c d e f g i j, l = [a, b, c, d, e, f, g, i, j] := by
  match l, h with
  | [a, b, c, d, e, f, g, i, j], _ => exact ⟨a, b, c, d, e, f, g, i, j, rfl⟩
theorem seven {l : List V} (h : l.length = 7) : ∃ a b c d e f g, l = [a, b, c, d, e, f, g] := by
  match l, h with
  | [a, b, c, d, e, f, g], _ => exact ⟨a, b, c, d, e, f, g, rfl⟩
theorem op_rd {H : Heap} {b o c : Nat} {l : List OpO} (ho : ∀ o ∈ l, OpOk o) (h : Arr H (.sl (some (b, o)) l.length c 17) 17 l.length (opCells l)) {i : Nat} (hi : i < l.length) : rd H (some 17) b (o + i * 17) = some (.agg l[i].cs) := by
  rw [h.agg hi, opCells_at ho hi]
theorem toldR_ne {e : Int} (h : e ≠ 0) : toldR e ≠ 0 := by
  unfold toldR
  split
  · decide
  · split
    · decide
    · split
      · decide
      · exact h
theorem back_newM {cd cn : Nat} {PL : List MR} (r : MR) : (St.new cd cn PL.length).back ((PL ++ [r]).map MR.k) = PL.map MR.k ∧ (St.new cd cn PL.length).may ((PL ++ [r]).map MR.k).length := by
  have h := back_new (cd := cd) (cn := cn) (K := PL.map MR.k) (k := r.k)
  rw [List.length_map] at h
  rw [List.map_append]
  exact h
set_option maxHeartbeats 1000000 in
theorem undo_one {P : Prog} (hq : HasL2 P) (hp : HasDoc P) (hu : HasL20Undo P) {d p : Nat} {H0 H : Heap} {v : V} {l : List OpO} (hv : Arr H0 v 17 l.length (opCells l)) (ho : ∀ o ∈ l, OpOk o) {Qp : Post} {s' t'} (x : DuS) (h : x.ok d l.length [Cel p [v], Bas H0] H)
    (hQ : ∀ x H' ex, DuS.ok d l.length [Cel p [v], Bas H0] x H' → Qp (.exit 0) ⟨(DuS.fr p d x).tm ++ ex, []⟩ H') :
    loopL (Call P) [1, 3, 4, 5] burinlaw20_DocUndo_l1 Qp s' t' (x.fr p d) H := by
  refine loop_dec (σ := DuS) (fun x => 90 - x.i) (DuS.fr p d) (DuS.ok d l.length [Cel p [v], Bas H0]) (fun x H1 K ok hn hxx hrr => ?_) x H h
  obtain ⟨i, bv, PL, SL, KL, vp, vs⟩ := x
  have ok' := ok
  obtain ⟨hi, hi2, hpl, hkl, hall, hsl, hch, h1⟩ := ok
  dsimp only at hi hi2 hpl hkl hall hsl hch h1 hn ⊢
  have mp : Cel p [v] ∈ DocL d vp vs PL SL (BkA bv KL [Cel p [v], Bas H0]) := docT (by simp [BkA])
  have mb : Bas H0 ∈ DocL d vp vs PL SL (BkA bv KL [Cel p [v], Bas H0]) := docT (by simp [BkA])
  have cp := rd_s (h1.celm mp)
  obtain ⟨va, vc, ve, hvs⟩ := hv.shape
  by_cases he : i < l.length ∧ i < 90
  · obtain ⟨he1, he2⟩ := he
    obtain ⟨lb, lo, lc, rfl⟩ := hv.at0 (by omega)
    have rl := op_rd ho (hv.same (h1.bas mb) fun _ _ h => h) he1
    have ok := ho l[i] (List.getElem_mem _)
    generalize l[i] = op at *
    obtain ⟨dn, on, or_⟩ := op
    obtain ⟨k1, k2, k3, k4, k5⟩ := ok
    dsimp only at k1 k2 k3 k4 k5
    obtain ⟨n0, n1, n2, n3, n4, n5, n6, n7, n8, rfl⟩ := nine k2
    obtain ⟨r0, r1, r2, r3, r4, r5, r6, rfl⟩ := seven k4
    have rl : rd H1 (some 17) lb (lo + i * 17) = some (.agg [.int .i64 dn, .int .i64 n0, .int .i64 n1, .int .i64 n2, .int .i64 n3, .int .i64 n4, .int .i64 n5, .int .i64 n6, .int .i64 n7, .int .i64 n8, r0, r1, r2, r3, r4, r5, r6]) := rl
    have hone : ([.int .i64 dn, .int .i64 n0, .int .i64 n1, .int .i64 n2, .int .i64 n3, .int .i64 n4, .int .i64 n5, .int .i64 n6, .int .i64 n7, .int .i64 n8, r0, r1, r2, r3, r4, r5, r6] : List V).all one = true := k5
    unfold DuS.fr
    have g1 := h1.alloc (l := [.int .i64 dn, .int .i64 n0, .int .i64 n1, .int .i64 n2, .int .i64 n3, .int .i64 n4, .int .i64 n5, .int .i64 n6, .int .i64 n7, .int .i64 n8, r0, r1, r2, r3, r4, r5, r6])
    have q9 := rd_m g1.cel 9 1
    rw [show (piece [V.int .i64 dn, .int .i64 n0, .int .i64 n1, .int .i64 n2, .int .i64 n3, .int .i64 n4, .int .i64 n5, .int .i64 n6, .int .i64 n7, .int .i64 n8, r0, r1, r2, r3, r4, r5, r6] 1 9).map V.agg = some (.agg [.int .i64 n0, .int .i64 n1, .int .i64 n2, .int .i64 n3, .int .i64 n4, .int .i64 n5, .int .i64 n6, .int .i64 n7, .int .i64 n8]) from rfl] at q9
    have g2 := g1.alloc (l := [.int .i64 n0, .int .i64 n1, .int .i64 n2, .int .i64 n3, .int .i64 n4, .int .i64 n5, .int .i64 n6, .int .i64 n7, .int .i64 n8])
    rw [next_new] at g2
    simp -implicitDefEqProofs -dsimp (disch := omega) only [go_sem, Nat.reduceEqDiff, ↓reduceIte, Nat.reduceAdd, Nat.reduceMul, Nat.reduceSub, Nat.reduceLT, Nat.reduceLeDiff, Int.reduceLT, Int.reduceLE, Int.reduceEq, Int.reduceNeg, Int.reduceAdd, Int.reduceMul, Int.reduceSub, Int.reduceToNat, reduceCtorEq, dec_t, dec_f, burinlaw20_DocUndo_l1, cp, Int.toNat_natCast, rl, hone, q9]
    generalize (H1.new _).new _ = H2 at *
    generalize H1.next + 1 = b7 at *
    generalize H1.next = b6 at *
    clear q9
    have g3 := docIn (A := [Cel b7 [.int .i64 n0, .int .i64 n1, .int .i64 n2, .int .i64 n3, .int .i64 n4, .int .i64 n5, .int .i64 n6, .int .i64 n7, .int .i64 n8], Cel b6 [.int .i64 dn, .int .i64 n0, .int .i64 n1, .int .i64 n2, .int .i64 n3, .int .i64 n4, .int .i64 n5, .int .i64 n6, .int .i64 n7, .int .i64 n8, r0, r1, r2, r3, r4, r5, r6]]) g2
    refine pagesL_ct hq.bm hp hu g3 (by omega) fun rv BL H3 hbl h3 => ?_
    have m6 : Cel b6 [.int .i64 dn, .int .i64 n0, .int .i64 n1, .int .i64 n2, .int .i64 n3, .int .i64 n4, .int .i64 n5, .int .i64 n6, .int .i64 n7, .int .i64 n8, r0, r1, r2, r3, r4, r5, r6] ∈ BrL rv BL ([Cel b7 [.int .i64 n0, .int .i64 n1, .int .i64 n2, .int .i64 n3, .int .i64 n4, .int .i64 n5, .int .i64 n6, .int .i64 n7, .int .i64 n8], Cel b6 [.int .i64 dn, .int .i64 n0, .int .i64 n1, .int .i64 n2, .int .i64 n3, .int .i64 n4, .int .i64 n5, .int .i64 n6, .int .i64 n7, .int .i64 n8, r0, r1, r2, r3, r4, r5, r6]] ++ BkA bv KL [Cel p [.sl (some (lb, lo)) l.length lc 17], Bas H0]) := by simp [BrL]
    have m7 : Cel b7 [.int .i64 n0, .int .i64 n1, .int .i64 n2, .int .i64 n3, .int .i64 n4, .int .i64 n5, .int .i64 n6, .int .i64 n7, .int .i64 n8] ∈ BrL rv BL ([Cel b7 [.int .i64 n0, .int .i64 n1, .int .i64 n2, .int .i64 n3, .int .i64 n4, .int .i64 n5, .int .i64 n6, .int .i64 n7, .int .i64 n8], Cel b6 [.int .i64 dn, .int .i64 n0, .int .i64 n1, .int .i64 n2, .int .i64 n3, .int .i64 n4, .int .i64 n5, .int .i64 n6, .int .i64 n7, .int .i64 n8, r0, r1, r2, r3, r4, r5, r6]] ++ BkA bv KL [Cel p [.sl (some (lb, lo)) l.length lc 17], Bas H0]) := by simp [BrL]
    have mr : Lst rv 3 BL.length (brCells BL) ∈ BrL rv BL ([Cel b7 [.int .i64 n0, .int .i64 n1, .int .i64 n2, .int .i64 n3, .int .i64 n4, .int .i64 n5, .int .i64 n6, .int .i64 n7, .int .i64 n8], Cel b6 [.int .i64 dn, .int .i64 n0, .int .i64 n1, .int .i64 n2, .int .i64 n3, .int .i64 n4, .int .i64 n5, .int .i64 n6, .int .i64 n7, .int .i64 n8, r0, r1, r2, r3, r4, r5, r6]] ++ BkA bv KL [Cel p [.sl (some (lb, lo)) l.length lc 17], Bas H0]) := List.mem_cons_self ..
    have ms : ∀ r ∈ BL, r.as ∈ BrL rv BL ([Cel b7 [.int .i64 n0, .int .i64 n1, .int .i64 n2, .int .i64 n3, .int .i64 n4, .int .i64 n5, .int .i64 n6, .int .i64 n7, .int .i64 n8], Cel b6 [.int .i64 dn, .int .i64 n0, .int .i64 n1, .int .i64 n2, .int .i64 n3, .int .i64 n4, .int .i64 n5, .int .i64 n6, .int .i64 n7, .int .i64 n8, r0, r1, r2, r3, r4, r5, r6]] ++ BkA bv KL [Cel p [.sl (some (lb, lo)) l.length lc 17], Bas H0]) := fun r hr => List.mem_cons_of_mem _ (List.mem_append_left _ (List.mem_map_of_mem hr))
    have dr := fun {H' : Heap} {vp' vs' : V} {PL' : List MR} {SL' : List St} (h : Hs H' (DocL d vp' vs' PL' SL' (BrL rv BL ([Cel b7 [.int .i64 n0, .int .i64 n1, .int .i64 n2, .int .i64 n3, .int .i64 n4, .int .i64 n5, .int .i64 n6, .int .i64 n7, .int .i64 n8], Cel b6 [.int .i64 dn, .int .i64 n0, .int .i64 n1, .int .i64 n2, .int .i64 n3, .int .i64 n4, .int .i64 n5, .int .i64 n6, .int .i64 n7, .int .i64 n8, r0, r1, r2, r3, r4, r5, r6]] ++ BkA bv KL [Cel p [.sl (some (lb, lo)) l.length lc 17], Bas H0])))) => (docOut (br_drop h)).tail.tail
    -- the two cells leave, what was stays
    have dk := fun {H' : Heap} {vp' vs' : V} {PL' : List MR} {SL' : List St} (h : Hs H' (DocL d vp' vs' PL' SL' (BrL rv BL ([Cel b7 [.int .i64 n0, .int .i64 n1, .int .i64 n2, .int .i64 n3, .int .i64 n4, .int .i64 n5, .int .i64 n6, .int .i64 n7, .int .i64 n8], Cel b6 [.int .i64 dn, .int .i64 n0, .int .i64 n1, .int .i64 n2, .int .i64 n3, .int .i64 n4, .int .i64 n5, .int .i64 n6, .int .i64 n7, .int .i64 n8, r0, r1, r2, r3, r4, r5, r6]] ++ BkA bv KL [Cel p [.sl (some (lb, lo)) l.length lc 17], Bas H0])))) => br_mid h
    have keep := fun {H' : Heap} {vp' vs' : V} {PL' : List MR} {SL' : List St} (h : Hs H' (DocL d vp' vs' PL' SL' (BrL rv BL ([Cel b7 [.int .i64 n0, .int .i64 n1, .int .i64 n2, .int .i64 n3, .int .i64 n4, .int .i64 n5, .int .i64 n6, .int .i64 n7, .int .i64 n8], Cel b6 [.int .i64 dn, .int .i64 n0, .int .i64 n1, .int .i64 n2, .int .i64 n3, .int .i64 n4, .int .i64 n5, .int .i64 n6, .int .i64 n7, .int .i64 n8, r0, r1, r2, r3, r4, r5, r6]] ++ BkA bv KL [Cel p [.sl (some (lb, lo)) l.length lc 17], Bas H0])))) => keep_on (dk h) (by omega)
    generalize BrL rv BL _ = TT at *
    clear dk g2 g3
    obtain ⟨ra, rc, re, hrv⟩ : ∃ a c e, rv = .sl a BL.length c e := (h3.ownm (docT mr)).arr.shape
    have hbl64 : BL.length = PL.length := by simpa using congrArg List.length hbl
    have nxtA := fun H' (h : Hs H' (DocL d vp vs PL SL (BkA bv KL [Cel p [.sl (some (lb, lo)) l.length lc 17], Bas H0]))) => hn ⟨i + 1, bv, PL, SL, KL, vp, vs⟩ H' (by dsimp only; omega) ⟨by dsimp only; omega, by dsimp only; omega, hpl, by dsimp only; omega, hall, hsl, hch, h⟩
    have nxtB := fun (vp' vs' : V) (PL' : List MR) (S : St) (H' : Heap) (bv' : V) (h6 : PL'.length ≤ 6) (hm : S.may (PL'.map MR.k).length) (hb : S.back (PL'.map MR.k) = PL.map MR.k) (h : Hs H' (DocL d vp' vs' PL' (push SL S) (BkA bv' (KL ++ [(rv, BL)]) [Cel p [.sl (some (lb, lo)) l.length lc 17], Bas H0]))) => hn ⟨i + 1, bv', PL', push SL S, KL ++ [(rv, BL)], vp', vs'⟩ H' (by dsimp only; omega) ⟨by dsimp only; omega, by dsimp only; omega, h6, by dsimp only; simp; omega, fun k hk => by
        rcases List.mem_append.1 hk with hk | hk
        · exact hall k hk
        · rw [List.mem_singleton] at hk; subst hk; dsimp only; omega, by dsimp only; rw [push_min hsl]; simp, by
        dsimp only
        rw [List.map_append, List.reverse_append]
        show Chain _ _ (kKey (rv, BL) :: _)
        rw [show kKey (rv, BL) = PL.map MR.k from hbl]
        exact chain_push hch hm hb, h⟩
    unfold DuS.fr at nxtA nxtB
    dsimp only at nxtA nxtB
    have c6 := rd_s (h3.celm (docT m6))
    have c7 := rd_s (h3.celm (docT m7))
    by_cases d1 : dn = 1
    · subst d1
      simp -implicitDefEqProofs -dsimp (disch := omega) only [go_sem, Nat.reduceEqDiff, ↓reduceIte, Nat.reduceAdd, Nat.reduceMul, Nat.reduceSub, Nat.reduceLT, Nat.reduceLeDiff, Int.reduceLT, Int.reduceLE, Int.reduceEq, Int.reduceNeg, Int.reduceAdd, Int.reduceMul, Int.reduceSub, Int.reduceToNat, reduceCtorEq, dec_t, dec_f, c6, c7, Int.reduceToNat, Nat.reduceMul]
      refine docSet_ct hq.bm hp h3 (by omega) (fun k H4 h4 => ?_) (fun j hj e k H4 h4 => ?_) fun j hj e k cb cd cp' v' vs4 H4 h4 => ?_
      · simp -implicitDefEqProofs -dsimp (disch := omega) only [go_sem, Nat.reduceEqDiff, ↓reduceIte, Nat.reduceAdd, Nat.reduceMul, Nat.reduceSub, Nat.reduceLT, Nat.reduceLeDiff, Int.reduceLT, Int.reduceLE, Int.reduceEq, Int.reduceNeg, Int.reduceAdd, Int.reduceMul, Int.reduceSub, Int.reduceToNat, reduceCtorEq, dec_t, dec_f, ]
        refine sameD_ct hq hp hu h4 (by omega) mr ms hbl fun H5 h5 => ?_
        simp -implicitDefEqProofs -dsimp (disch := omega) only [go_sem, Nat.reduceEqDiff, ↓reduceIte, Nat.reduceAdd, Nat.reduceMul, Nat.reduceSub, Nat.reduceLT, Nat.reduceLeDiff, Int.reduceLT, Int.reduceLE, Int.reduceEq, Int.reduceNeg, Int.reduceAdd, Int.reduceMul, Int.reduceSub, Int.reduceToNat, reduceCtorEq, dec_t, dec_f, w64, cadd1]
        exact nxtA H5 (dr h5)
      · have k := toldR_ne k
        generalize toldR _ = e at *
        simp -implicitDefEqProofs -dsimp (disch := omega) only [go_sem, Nat.reduceEqDiff, ↓reduceIte, Nat.reduceAdd, Nat.reduceMul, Nat.reduceSub, Nat.reduceLT, Nat.reduceLeDiff, Int.reduceLT, Int.reduceLE, Int.reduceEq, Int.reduceNeg, Int.reduceAdd, Int.reduceMul, Int.reduceSub, Int.reduceToNat, reduceCtorEq, dec_t, dec_f, ]
        refine sameD_ct hq hp hu h4 (by omega) mr ms hbl fun H5 h5 => ?_
        simp -implicitDefEqProofs -dsimp (disch := omega) only [go_sem, Nat.reduceEqDiff, ↓reduceIte, Nat.reduceAdd, Nat.reduceMul, Nat.reduceSub, Nat.reduceLT, Nat.reduceLeDiff, Int.reduceLT, Int.reduceLE, Int.reduceEq, Int.reduceNeg, Int.reduceAdd, Int.reduceMul, Int.reduceSub, Int.reduceToNat, reduceCtorEq, dec_t, dec_f, w64, cadd1]
        exact nxtA H5 (dr h5)
      · obtain ⟨bv', H5, ha, h5⟩ := keep h4
        rw [hrv] at ha ⊢
        simp -implicitDefEqProofs -dsimp (disch := omega) only [go_sem, Nat.reduceEqDiff, ↓reduceIte, Nat.reduceAdd, Nat.reduceMul, Nat.reduceSub, Nat.reduceLT, Nat.reduceLeDiff, Int.reduceLT, Int.reduceLE, Int.reduceEq, Int.reduceNeg, Int.reduceAdd, Int.reduceMul, Int.reduceSub, Int.reduceToNat, reduceCtorEq, dec_t, dec_f, ha, w64, cadd1]
        exact nxtB vp vs4 _ _ H5 bv' (by simpa using hpl) (back_put hj _).2 (back_put hj _).1 h5
    have i0 : i64r n0 := k3 _ (by simp)
    have i1 : i64r n1 := k3 _ (by simp)
    have i2 : i64r n2 := k3 _ (by simp)
    have i3 : i64r n3 := k3 _ (by simp)
    have i4 : i64r n4 := k3 _ (by simp)
    have i5 : i64r n5 := k3 _ (by simp)
    have i6 : i64r n6 := k3 _ (by simp)
    have i7 : i64r n7 := k3 _ (by simp)
    have i8 : i64r n8 := k3 _ (by simp)
    by_cases d2 : dn = 2
    · subst d2
      simp -implicitDefEqProofs -dsimp (disch := omega) only [go_sem, Nat.reduceEqDiff, ↓reduceIte, Nat.reduceAdd, Nat.reduceMul, Nat.reduceSub, Nat.reduceLT, Nat.reduceLeDiff, Int.reduceLT, Int.reduceLE, Int.reduceEq, Int.reduceNeg, Int.reduceAdd, Int.reduceMul, Int.reduceSub, Int.reduceToNat, reduceCtorEq, dec_t, dec_f, c6, c7, Int.reduceToNat, Nat.reduceMul]
      refine docFill_ct hq.bm hp i1 i2 i3 i4 h3 (by omega) (fun k H4 h4 => ?_) (fun j hj e k H4 h4 => ?_) fun j hj e k cb cd cp' v' vs4 H4 h4 => ?_
      · simp -implicitDefEqProofs -dsimp (disch := omega) only [go_sem, Nat.reduceEqDiff, ↓reduceIte, Nat.reduceAdd, Nat.reduceMul, Nat.reduceSub, Nat.reduceLT, Nat.reduceLeDiff, Int.reduceLT, Int.reduceLE, Int.reduceEq, Int.reduceNeg, Int.reduceAdd, Int.reduceMul, Int.reduceSub, Int.reduceToNat, reduceCtorEq, dec_t, dec_f, ]
        refine sameD_ct hq hp hu h4 (by omega) mr ms hbl fun H5 h5 => ?_
        simp -implicitDefEqProofs -dsimp (disch := omega) only [go_sem, Nat.reduceEqDiff, ↓reduceIte, Nat.reduceAdd, Nat.reduceMul, Nat.reduceSub, Nat.reduceLT, Nat.reduceLeDiff, Int.reduceLT, Int.reduceLE, Int.reduceEq, Int.reduceNeg, Int.reduceAdd, Int.reduceMul, Int.reduceSub, Int.reduceToNat, reduceCtorEq, dec_t, dec_f, w64, cadd1]
        exact nxtA H5 (dr h5)
      · have k := toldR_ne k
        generalize toldR _ = e at *
        simp -implicitDefEqProofs -dsimp (disch := omega) only [go_sem, Nat.reduceEqDiff, ↓reduceIte, Nat.reduceAdd, Nat.reduceMul, Nat.reduceSub, Nat.reduceLT, Nat.reduceLeDiff, Int.reduceLT, Int.reduceLE, Int.reduceEq, Int.reduceNeg, Int.reduceAdd, Int.reduceMul, Int.reduceSub, Int.reduceToNat, reduceCtorEq, dec_t, dec_f, ]
        refine sameD_ct hq hp hu h4 (by omega) mr ms hbl fun H5 h5 => ?_
        simp -implicitDefEqProofs -dsimp (disch := omega) only [go_sem, Nat.reduceEqDiff, ↓reduceIte, Nat.reduceAdd, Nat.reduceMul, Nat.reduceSub, Nat.reduceLT, Nat.reduceLeDiff, Int.reduceLT, Int.reduceLE, Int.reduceEq, Int.reduceNeg, Int.reduceAdd, Int.reduceMul, Int.reduceSub, Int.reduceToNat, reduceCtorEq, dec_t, dec_f, w64, cadd1]
        exact nxtA H5 (dr h5)
      · obtain ⟨bv', H5, ha, h5⟩ := keep h4
        rw [hrv] at ha ⊢
        simp -implicitDefEqProofs -dsimp (disch := omega) only [go_sem, Nat.reduceEqDiff, ↓reduceIte, Nat.reduceAdd, Nat.reduceMul, Nat.reduceSub, Nat.reduceLT, Nat.reduceLeDiff, Int.reduceLT, Int.reduceLE, Int.reduceEq, Int.reduceNeg, Int.reduceAdd, Int.reduceMul, Int.reduceSub, Int.reduceToNat, reduceCtorEq, dec_t, dec_f, ha, w64, cadd1]
        exact nxtB vp vs4 _ _ H5 bv' (by simpa using hpl) (back_put hj _).2 (back_put hj _).1 h5
    by_cases d0 : dn = 0
    · subst d0
      simp -implicitDefEqProofs -dsimp (disch := omega) only [go_sem, Nat.reduceEqDiff, ↓reduceIte, Nat.reduceAdd, Nat.reduceMul, Nat.reduceSub, Nat.reduceLT, Nat.reduceLeDiff, Int.reduceLT, Int.reduceLE, Int.reduceEq, Int.reduceNeg, Int.reduceAdd, Int.reduceMul, Int.reduceSub, Int.reduceToNat, reduceCtorEq, dec_t, dec_f, c6, c7, Int.reduceToNat, Nat.reduceMul]
      refine sizeR_ct hq.rz i0 i1 ?_
      by_cases so : sizeOk n0 n1
      · have hle := sizeOk_le so
        have hso := so
        obtain ⟨z1, z2, z3⟩ := so
        have hm : n0 * n1 ≤ 1048576 := z3
        have hm0 : 0 ≤ n0 * n1 := Int.mul_nonneg (by omega) (by omega)
        generalize hmm : n0 * n1 = m at *
        rcases (show m + 64 * n1 > 6000 ∨ ¬ (m + 64 * n1 > 6000) by omega) with k | k
        · simp -implicitDefEqProofs -dsimp (disch := omega) only [go_sem, Nat.reduceEqDiff, ↓reduceIte, Nat.reduceAdd, Nat.reduceMul, Nat.reduceSub, Nat.reduceLT, Nat.reduceLeDiff, Int.reduceLT, Int.reduceLE, Int.reduceEq, Int.reduceNeg, Int.reduceAdd, Int.reduceMul, Int.reduceSub, Int.reduceToNat, reduceCtorEq, dec_t, dec_f, decide_eq_true hso, c6, c7, hmm, w64, cadd1]
          exact nxtA H3 (dr h3)
        · simp -implicitDefEqProofs -dsimp (disch := omega) only [go_sem, Nat.reduceEqDiff, ↓reduceIte, Nat.reduceAdd, Nat.reduceMul, Nat.reduceSub, Nat.reduceLT, Nat.reduceLeDiff, Int.reduceLT, Int.reduceLE, Int.reduceEq, Int.reduceNeg, Int.reduceAdd, Int.reduceMul, Int.reduceSub, Int.reduceToNat, reduceCtorEq, dec_t, dec_f, decide_eq_true hso, c6, c7, hmm, w64, cadd1]
          refine pages_ct hp h3 ?_
          rcases (show PL.length < 6 ∨ ¬ PL.length < 6 by omega) with k6 | k6
          · simp -implicitDefEqProofs -dsimp (disch := omega) only [go_sem, Nat.reduceEqDiff, ↓reduceIte, Nat.reduceAdd, Nat.reduceMul, Nat.reduceSub, Nat.reduceLT, Nat.reduceLeDiff, Int.reduceLT, Int.reduceLE, Int.reduceEq, Int.reduceNeg, Int.reduceAdd, Int.reduceMul, Int.reduceSub, Int.reduceToNat, reduceCtorEq, dec_t, dec_f, c7, Int.reduceToNat, Nat.reduceMul]
            refine newPage_ct hq.bm hp h3 i0 i1 (by omega) (by omega) (fun k H4 h4 => ?_) (fun k k2 H4 h4 => absurd k2 (by omega)) fun k k2 vp' vs4 m cd cn H4 h4 => ?_
            · simp -implicitDefEqProofs -dsimp (disch := omega) only [go_sem, Nat.reduceEqDiff, ↓reduceIte, Nat.reduceAdd, Nat.reduceMul, Nat.reduceSub, Nat.reduceLT, Nat.reduceLeDiff, Int.reduceLT, Int.reduceLE, Int.reduceEq, Int.reduceNeg, Int.reduceAdd, Int.reduceMul, Int.reduceSub, Int.reduceToNat, reduceCtorEq, dec_t, dec_f, ]
              refine sameD_ct hq hp hu h4 (by omega) mr ms hbl fun H5 h5 => ?_
              simp -implicitDefEqProofs -dsimp (disch := omega) only [go_sem, Nat.reduceEqDiff, ↓reduceIte, Nat.reduceAdd, Nat.reduceMul, Nat.reduceSub, Nat.reduceLT, Nat.reduceLeDiff, Int.reduceLT, Int.reduceLE, Int.reduceEq, Int.reduceNeg, Int.reduceAdd, Int.reduceMul, Int.reduceSub, Int.reduceToNat, reduceCtorEq, dec_t, dec_f, w64, cadd1]
              exact nxtA H5 (dr h5)
            · obtain ⟨bv', H5, ha, h5⟩ := keep h4
              rw [hrv] at ha ⊢
              simp -implicitDefEqProofs -dsimp (disch := omega) only [go_sem, Nat.reduceEqDiff, ↓reduceIte, Nat.reduceAdd, Nat.reduceMul, Nat.reduceSub, Nat.reduceLT, Nat.reduceLeDiff, Int.reduceLT, Int.reduceLE, Int.reduceEq, Int.reduceNeg, Int.reduceAdd, Int.reduceMul, Int.reduceSub, Int.reduceToNat, reduceCtorEq, dec_t, dec_f, ha, w64, cadd1]
              exact nxtB vp' vs4 _ _ H5 bv' (by simp; omega) (back_newM _).2 (back_newM _).1 h5
          · simp -implicitDefEqProofs -dsimp (disch := omega) only [go_sem, Nat.reduceEqDiff, ↓reduceIte, Nat.reduceAdd, Nat.reduceMul, Nat.reduceSub, Nat.reduceLT, Nat.reduceLeDiff, Int.reduceLT, Int.reduceLE, Int.reduceEq, Int.reduceNeg, Int.reduceAdd, Int.reduceMul, Int.reduceSub, Int.reduceToNat, reduceCtorEq, dec_t, dec_f, ]
            refine sameD_ct hq hp hu h3 (by omega) mr ms hbl fun H5 h5 => ?_
            simp -implicitDefEqProofs -dsimp (disch := omega) only [go_sem, Nat.reduceEqDiff, ↓reduceIte, Nat.reduceAdd, Nat.reduceMul, Nat.reduceSub, Nat.reduceLT, Nat.reduceLeDiff, Int.reduceLT, Int.reduceLE, Int.reduceEq, Int.reduceNeg, Int.reduceAdd, Int.reduceMul, Int.reduceSub, Int.reduceToNat, reduceCtorEq, dec_t, dec_f, w64, cadd1]
            exact nxtA H5 (dr h5)
      · simp -implicitDefEqProofs -dsimp (disch := omega) only [go_sem, Nat.reduceEqDiff, ↓reduceIte, Nat.reduceAdd, Nat.reduceMul, Nat.reduceSub, Nat.reduceLT, Nat.reduceLeDiff, Int.reduceLT, Int.reduceLE, Int.reduceEq, Int.reduceNeg, Int.reduceAdd, Int.reduceMul, Int.reduceSub, Int.reduceToNat, reduceCtorEq, dec_t, dec_f, decide_eq_false so, c6, c7]
        refine pages_ct hp h3 ?_
        rcases (show PL.length < 6 ∨ ¬ PL.length < 6 by omega) with k6 | k6
        · simp -implicitDefEqProofs -dsimp (disch := omega) only [go_sem, Nat.reduceEqDiff, ↓reduceIte, Nat.reduceAdd, Nat.reduceMul, Nat.reduceSub, Nat.reduceLT, Nat.reduceLeDiff, Int.reduceLT, Int.reduceLE, Int.reduceEq, Int.reduceNeg, Int.reduceAdd, Int.reduceMul, Int.reduceSub, Int.reduceToNat, reduceCtorEq, dec_t, dec_f, c7, Int.reduceToNat, Nat.reduceMul]
          refine newPage_ct hq.bm hp h3 i0 i1 (by omega) (by omega) (fun k H4 h4 => ?_) (fun k k2 H4 h4 => absurd k2 (by omega)) fun k k2 vp' vs4 m cd cn H4 h4 => ?_
          · simp -implicitDefEqProofs -dsimp (disch := omega) only [go_sem, Nat.reduceEqDiff, ↓reduceIte, Nat.reduceAdd, Nat.reduceMul, Nat.reduceSub, Nat.reduceLT, Nat.reduceLeDiff, Int.reduceLT, Int.reduceLE, Int.reduceEq, Int.reduceNeg, Int.reduceAdd, Int.reduceMul, Int.reduceSub, Int.reduceToNat, reduceCtorEq, dec_t, dec_f, ]
            refine sameD_ct hq hp hu h4 (by omega) mr ms hbl fun H5 h5 => ?_
            simp -implicitDefEqProofs -dsimp (disch := omega) only [go_sem, Nat.reduceEqDiff, ↓reduceIte, Nat.reduceAdd, Nat.reduceMul, Nat.reduceSub, Nat.reduceLT, Nat.reduceLeDiff, Int.reduceLT, Int.reduceLE, Int.reduceEq, Int.reduceNeg, Int.reduceAdd, Int.reduceMul, Int.reduceSub, Int.reduceToNat, reduceCtorEq, dec_t, dec_f, w64, cadd1]
            exact nxtA H5 (dr h5)
          · obtain ⟨bv', H5, ha, h5⟩ := keep h4
            rw [hrv] at ha ⊢
            simp -implicitDefEqProofs -dsimp (disch := omega) only [go_sem, Nat.reduceEqDiff, ↓reduceIte, Nat.reduceAdd, Nat.reduceMul, Nat.reduceSub, Nat.reduceLT, Nat.reduceLeDiff, Int.reduceLT, Int.reduceLE, Int.reduceEq, Int.reduceNeg, Int.reduceAdd, Int.reduceMul, Int.reduceSub, Int.reduceToNat, reduceCtorEq, dec_t, dec_f, ha, w64, cadd1]
            exact nxtB vp' vs4 _ _ H5 bv' (by simp; omega) (back_newM _).2 (back_newM _).1 h5
        · simp -implicitDefEqProofs -dsimp (disch := omega) only [go_sem, Nat.reduceEqDiff, ↓reduceIte, Nat.reduceAdd, Nat.reduceMul, Nat.reduceSub, Nat.reduceLT, Nat.reduceLeDiff, Int.reduceLT, Int.reduceLE, Int.reduceEq, Int.reduceNeg, Int.reduceAdd, Int.reduceMul, Int.reduceSub, Int.reduceToNat, reduceCtorEq, dec_t, dec_f, ]
          refine sameD_ct hq hp hu h3 (by omega) mr ms hbl fun H5 h5 => ?_
          simp -implicitDefEqProofs -dsimp (disch := omega) only [go_sem, Nat.reduceEqDiff, ↓reduceIte, Nat.reduceAdd, Nat.reduceMul, Nat.reduceSub, Nat.reduceLT, Nat.reduceLeDiff, Int.reduceLT, Int.reduceLE, Int.reduceEq, Int.reduceNeg, Int.reduceAdd, Int.reduceMul, Int.reduceSub, Int.reduceToNat, reduceCtorEq, dec_t, dec_f, w64, cadd1]
          exact nxtA H5 (dr h5)
    · simp -implicitDefEqProofs -dsimp (disch := omega) only [go_sem, Nat.reduceEqDiff, ↓reduceIte, Nat.reduceAdd, Nat.reduceMul, Nat.reduceSub, Nat.reduceLT, Nat.reduceLeDiff, Int.reduceLT, Int.reduceLE, Int.reduceEq, Int.reduceNeg, Int.reduceAdd, Int.reduceMul, Int.reduceSub, Int.reduceToNat, reduceCtorEq, dec_t, dec_f, c6, c7, Int.reduceToNat, Nat.reduceMul]
      refine docBlit_ct hq.bm hp i1 i2 i3 i4 i6 i7 i8 h3 (by omega) (fun k H4 h4 => ?_) (fun j2 j hj2 hj e2 e k H4 h4 => ?_) fun j2 j hj2 hj e2 e k cb cd cp' v' vs4 H4 h4 => ?_
      · simp -implicitDefEqProofs -dsimp (disch := omega) only [go_sem, Nat.reduceEqDiff, ↓reduceIte, Nat.reduceAdd, Nat.reduceMul, Nat.reduceSub, Nat.reduceLT, Nat.reduceLeDiff, Int.reduceLT, Int.reduceLE, Int.reduceEq, Int.reduceNeg, Int.reduceAdd, Int.reduceMul, Int.reduceSub, Int.reduceToNat, reduceCtorEq, dec_t, dec_f, ]
        refine sameD_ct hq hp hu h4 (by omega) mr ms hbl fun H5 h5 => ?_
        simp -implicitDefEqProofs -dsimp (disch := omega) only [go_sem, Nat.reduceEqDiff, ↓reduceIte, Nat.reduceAdd, Nat.reduceMul, Nat.reduceSub, Nat.reduceLT, Nat.reduceLeDiff, Int.reduceLT, Int.reduceLE, Int.reduceEq, Int.reduceNeg, Int.reduceAdd, Int.reduceMul, Int.reduceSub, Int.reduceToNat, reduceCtorEq, dec_t, dec_f, w64, cadd1]
        exact nxtA H5 (dr h5)
      · have k := toldR_ne k
        generalize toldR _ = e at *
        simp -implicitDefEqProofs -dsimp (disch := omega) only [go_sem, Nat.reduceEqDiff, ↓reduceIte, Nat.reduceAdd, Nat.reduceMul, Nat.reduceSub, Nat.reduceLT, Nat.reduceLeDiff, Int.reduceLT, Int.reduceLE, Int.reduceEq, Int.reduceNeg, Int.reduceAdd, Int.reduceMul, Int.reduceSub, Int.reduceToNat, reduceCtorEq, dec_t, dec_f, ]
        refine sameD_ct hq hp hu h4 (by omega) mr ms hbl fun H5 h5 => ?_
        simp -implicitDefEqProofs -dsimp (disch := omega) only [go_sem, Nat.reduceEqDiff, ↓reduceIte, Nat.reduceAdd, Nat.reduceMul, Nat.reduceSub, Nat.reduceLT, Nat.reduceLeDiff, Int.reduceLT, Int.reduceLE, Int.reduceEq, Int.reduceNeg, Int.reduceAdd, Int.reduceMul, Int.reduceSub, Int.reduceToNat, reduceCtorEq, dec_t, dec_f, w64, cadd1]
        exact nxtA H5 (dr h5)
      · obtain ⟨bv', H5, ha, h5⟩ := keep h4
        rw [hrv] at ha ⊢
        simp -implicitDefEqProofs -dsimp (disch := omega) only [go_sem, Nat.reduceEqDiff, ↓reduceIte, Nat.reduceAdd, Nat.reduceMul, Nat.reduceSub, Nat.reduceLT, Nat.reduceLeDiff, Int.reduceLT, Int.reduceLE, Int.reduceEq, Int.reduceNeg, Int.reduceAdd, Int.reduceMul, Int.reduceSub, Int.reduceToNat, reduceCtorEq, dec_t, dec_f, ha, w64, cadd1]
        exact nxtB vp vs4 _ _ H5 bv' (by simpa using hpl) (back_put hj _).2 (back_put hj _).1 h5
  · rw [hvs] at cp
    rcases (show ¬ i < l.length ∨ (i < l.length ∧ ¬ i < 90) by omega) with q | q <;>
    · unfold DuS.fr
      simp -implicitDefEqProofs -dsimp (disch := omega) only [go_sem, Nat.reduceEqDiff, ↓reduceIte, Nat.reduceAdd, Nat.reduceMul, Nat.reduceSub, Nat.reduceLT, Nat.reduceLeDiff, Int.reduceLT, Int.reduceLE, Int.reduceEq, Int.reduceNeg, Int.reduceAdd, Int.reduceMul, Int.reduceSub, Int.reduceToNat, reduceCtorEq, dec_t, dec_f, burinlaw20_DocUndo_l1, cp]
      rw [hxx]
      exact hQ ⟨i, bv, PL, SL, KL, vp, vs⟩ H1 _ ok'
set_option maxHeartbeats 1000000 in
theorem docUndo {P : Prog} (hq : HasL2 P) (hp : HasDoc P) (hu : HasL20Undo P) {H : Heap} {v : V} {l : List OpO} (hv : Arr H v 17 l.length (opCells l)) (ho : ∀ o ∈ l, OpOk o) : Call P 150 [.agg [v]] H fun o _ => o = .ret (.bool true) := by
  refine call_of hu.h_burinlaw20_DocUndo rfl ?_
  have h1 := (Hs.start H).alloc (l := [v])
  obtain ⟨va, vc, ve, hvs⟩ := hv.shape
  have h1 : Hs (H.new (.cells [v] true)) [Cel H.next [v], Bas H] := h1
  rw [hvs]
  simp -implicitDefEqProofs -dsimp (disch := omega) only [go_sem, Nat.reduceEqDiff, ↓reduceIte, Nat.reduceAdd, Nat.reduceMul, Nat.reduceSub, Nat.reduceLT, Nat.reduceLeDiff, Int.reduceLT, Int.reduceLE, Int.reduceEq, Int.reduceNeg, Int.reduceAdd, Int.reduceMul, Int.reduceSub, Int.reduceToNat, reduceCtorEq, dec_t, dec_f, ]
  rw [← hvs]
  generalize H.new _ = H1 at *
  generalize H.next = p at *
  refine docNew_ct hp h1 fun d H2 h2 => ?_
  simp -implicitDefEqProofs -dsimp (disch := omega) only [go_sem, Nat.reduceEqDiff, ↓reduceIte, Nat.reduceAdd, Nat.reduceMul, Nat.reduceSub, Nat.reduceLT, Nat.reduceLeDiff, Int.reduceLT, Int.reduceLE, Int.reduceEq, Int.reduceNeg, Int.reduceAdd, Int.reduceMul, Int.reduceSub, Int.reduceToNat, reduceCtorEq, dec_t, dec_f, ]
  refine undo_one hq hp hu hv ho ⟨0, .sl none 0 0 0, [], [], [], .sl none 0 0 0, .sl none 0 0 0⟩ ⟨Nat.zero_le _, by dsimp only; omega, by simp, by simp, (fun _ h => nomatch h), by simp, trivial, ?_⟩ fun x H3 ex h3 => ?_
  · have h3 := docIn (A := [Lst (.sl none 0 0 0) 1 0 []]) (h2.lst (Same.refl _ _) (own_nil _ 1) fun _ h => h.elim)
    exact h3
  obtain ⟨i, bv, PL, SL, KL, vp, vs⟩ := x
  obtain ⟨hi, hi2, hpl, hkl, hall, hsl, hch, h4⟩ := h3
  dsimp only at hi hi2 hpl hkl hall hsl hch h4
  have h5 : Hs H3 (Lst bv 1 KL.length (KL.map Prod.fst) :: DocL d vp vs PL SL (KL.flatMap KLas ++ [Cel p [v], Bas H])) := docOut (A := [Lst bv 1 KL.length (KL.map Prod.fst)]) h4
  have h6 := docIn (A := [Buf bv 1 KL.length (KL.map Prod.fst)]) h5.buf
  unfold DuS.fr
  simp -implicitDefEqProofs -dsimp (disch := omega) only [go_sem, Nat.reduceEqDiff, ↓reduceIte, Nat.reduceAdd, Nat.reduceMul, Nat.reduceSub, Nat.reduceLT, Nat.reduceLeDiff, Int.reduceLT, Int.reduceLE, Int.reduceEq, Int.reduceNeg, Int.reduceAdd, Int.reduceMul, Int.reduceSub, Int.reduceToNat, reduceCtorEq, dec_t, dec_f, ]
  refine undo_loop hq hp hu (T := [Cel p [v], Bas H]) ⟨0, bv, PL, SL, KL, vp, vs⟩ ⟨by dsimp only; omega, by dsimp only; omega, by dsimp only; omega, hall, by dsimp only; omega, hch, h6⟩ fun vp' vs' PL' H4 ex h7 => ?_
  simp -implicitDefEqProofs -dsimp (disch := omega) only [go_sem, Nat.reduceEqDiff, ↓reduceIte, Nat.reduceAdd, Nat.reduceMul, Nat.reduceSub, Nat.reduceLT, Nat.reduceLeDiff, Int.reduceLT, Int.reduceLE, Int.reduceEq, Int.reduceNeg, Int.reduceAdd, Int.reduceMul, Int.reduceSub, Int.reduceToNat, reduceCtorEq, dec_t, dec_f, ]
  refine undo0_ct hp h7 ?_
  simp -implicitDefEqProofs -dsimp (disch := omega) only [go_sem, Nat.reduceEqDiff, ↓reduceIte, Nat.reduceAdd, Nat.reduceMul, Nat.reduceSub, Nat.reduceLT, Nat.reduceLeDiff, Int.reduceLT, Int.reduceLE, Int.reduceEq, Int.reduceNeg, Int.reduceAdd, Int.reduceMul, Int.reduceSub, Int.reduceToNat, reduceCtorEq, dec_t, dec_f, ]
  refine wakes20_ct hq.bm hq.rz hp h7 fun H5 _ => ?_
  simp -implicitDefEqProofs -dsimp (disch := omega) only [go_sem, Nat.reduceEqDiff, ↓reduceIte, Nat.reduceAdd, Nat.reduceMul, Nat.reduceSub, Nat.reduceLT, Nat.reduceLeDiff, Int.reduceLT, Int.reduceLE, Int.reduceEq, Int.reduceNeg, Int.reduceAdd, Int.reduceMul, Int.reduceSub, Int.reduceToNat, reduceCtorEq, dec_t, dec_f, ]
theorem law_DocUndo {P : Prog} (hq : HasL2 P) (hp : HasDoc P) (hu : HasL20Undo P) (H : Heap) (cs : List V) (x : TD.Ty scTD) (h : Is H scTD cs x) : Call P 150 [argV scTD cs] H fun o _ => o = .ret (.bool true) := by
  obtain ⟨v, l, e, h1, h2, _⟩ := is_script h
  rw [e]
  exact docUndo hq hp hu h1 h2
end Go.Ab
