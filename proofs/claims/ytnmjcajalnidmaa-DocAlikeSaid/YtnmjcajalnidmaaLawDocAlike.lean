/- The law DocAlike. Conditions: none. -/
import Derived.Test.YtnmjcajalnidmaaVi
import Derived.Test.YtnmjcajalnidmaaVf
set_option linter.all false
namespace Go.Ab
structure HasL20w (P : Prog) : Prop where
  bm : HasBm P
  rz : HasRz P
  doc : HasDoc P
  within : P 29 = some burinkit_Within
structure NpS where
  k : Nat
  PL : List MR
  SL : List St
  vp : V
  vs : V
structure NpS.ok (d w h : Nat) (T : List As) (x : NpS) (H : Heap) : Prop where
  k : x.k ≤ 3
  len : x.PL.length = x.k
  all : ∀ r ∈ x.PL, r.w = w ∧ r.h = h ∧ r.p = wh0
  sl : x.SL.length ≤ 64
  hs : Hs H (DocL d x.vp x.vs x.PL x.SL T)
theorem three {PL : List MR} {w h : Nat} (hl : PL.length = 3) (ha : ∀ r ∈ PL, r.w = w ∧ r.h = h ∧ r.p = wh0) : ∃ m0 m1 m2, PL = [⟨m0, w, h, wh0⟩, ⟨m1, w, h, wh0⟩, ⟨m2, w, h, wh0⟩] := by
  match PL, hl with
  | [⟨m0, w0, h0, p0⟩, ⟨m1, w1, h1, p1⟩, ⟨m2, w2, h2, p2⟩], _ =>
    obtain ⟨a1, a2, a3⟩ := ha ⟨m0, w0, h0, p0⟩ (by simp)
    obtain ⟨b1, b2, b3⟩ := ha ⟨m1, w1, h1, p1⟩ (by simp)
    obtain ⟨c1, c2, c3⟩ := ha ⟨m2, w2, h2, p2⟩ (by simp)
    dsimp only at a1 a2 a3 b1 b2 b3 c1 c2 c3
    subst a1 a2 a3 b1 b2 b3 c1 c2 c3
    exact ⟨m0, m1, m2, by simp_all⟩
set_option maxHeartbeats 1000000 in
set_option maxRecDepth 4000 in
theorem docAlike {P : Prog} (hq : HasL20w P) (hg : P 151 = some burinlaw20_DocAlike) {H : Heap} {v1 v2 : V} {as bs : List Int} (hx : Arr H v1 1 as.length (as.map (V.int .i64))) (hy : Arr H v2 1 bs.length (bs.map (V.int .i64)))
    (ha : ∀ z ∈ as, i64r z) (hb : ∀ z ∈ bs, i64r z) : Call P 151 [.agg [v1, v2]] H fun o _ => o = .ret (.bool true) := by
  obtain ⟨a1, c1, e1, rfl⟩ := hx.shape
  obtain ⟨a2, c2, e2, rfl⟩ := hy.shape
  refine call_of hg rfl ?_
  have h1 := (Hs.start H).alloc (l := [.sl a1 as.length c1 e1, .sl a2 bs.length c2 e2])
  simp -implicitDefEqProofs -dsimp (disch := omega) only [go_sem, Nat.reduceEqDiff, ↓reduceIte, Nat.reduceAdd, Nat.reduceMul, Nat.reduceSub, Nat.reduceLT, Nat.reduceLeDiff, Int.reduceLT, Int.reduceLE, Int.reduceEq, Int.reduceNeg, Int.reduceAdd, Int.reduceMul, Int.reduceSub, Int.reduceToNat, reduceCtorEq, dec_t, dec_f, ]
  generalize H.new _ = H1 at *
  generalize H.next = p at *
  have c := rd_s h1.cel
  by_cases hin : 3 ≤ as.length ∧ 3 ≤ bs.length
  rotate_left
  · rcases (show as.length < 3 ∨ (3 ≤ as.length ∧ bs.length < 3) by omega) with q | q <;>
    · simp -implicitDefEqProofs -dsimp (disch := omega) only [go_sem, Nat.reduceEqDiff, ↓reduceIte, Nat.reduceAdd, Nat.reduceMul, Nat.reduceSub, Nat.reduceLT, Nat.reduceLeDiff, Int.reduceLT, Int.reduceLE, Int.reduceEq, Int.reduceNeg, Int.reduceAdd, Int.reduceMul, Int.reduceSub, Int.reduceToNat, reduceCtorEq, dec_t, dec_f, c]
      refine wakes20_ct hq.bm hq.rz hq.doc h1 fun H4 _ => ?_
      simp -implicitDefEqProofs -dsimp (disch := omega) only [go_sem, Nat.reduceEqDiff, ↓reduceIte, Nat.reduceAdd, Nat.reduceMul, Nat.reduceSub, Nat.reduceLT, Nat.reduceLeDiff, Int.reduceLT, Int.reduceLE, Int.reduceEq, Int.reduceNeg, Int.reduceAdd, Int.reduceMul, Int.reduceSub, Int.reduceToNat, reduceCtorEq, dec_t, dec_f, ]
  obtain ⟨hin1, hin2⟩ := hin
  obtain ⟨b1, o1, c1', e⟩ := hx.at0 (by omega)
  cases e
  obtain ⟨b2, o2, c2', e⟩ := hy.at0 (by omega)
  cases e
  have rx := fun {H' : Heap} {R : List As} (h : Hs H' R) (hm : Bas H ∈ R) (i : Nat) (hi : i < as.length) => (by
    have := (hx.same (h.bas hm) fun _ _ h => h).rd1 hi
    rwa [List.getElem?_map, List.getElem?_eq_getElem hi, Option.map_some] at this : rd H' none b1 (o1 + i) = some (.int .i64 as[i]))
  have ry := fun {H' : Heap} {R : List As} (h : Hs H' R) (hm : Bas H ∈ R) (i : Nat) (hi : i < bs.length) => (by
    have := (hy.same (h.bas hm) fun _ _ h => h).rd1 hi
    rwa [List.getElem?_map, List.getElem?_eq_getElem hi, Option.map_some] at this : rd H' none b2 (o2 + i) = some (.int .i64 bs[i]))
  have i0 := ha as[0] (List.getElem_mem _)
  have i1 := ha as[1] (List.getElem_mem _)
  have i2 := ha as[2] (List.getElem_mem _)
  have j0 := hb bs[0] (List.getElem_mem _)
  have j1 := hb bs[1] (List.getElem_mem _)
  have j2 := hb bs[2] (List.getElem_mem _)
  unfold i64r at i0 i1 i2 j0 j1 j2
  have rx0 := rx h1 (by simp) 0 (by omega)
  have ry0 := ry h1 (by simp) 0 (by omega)
  have rx1 := fun {H' : Heap} {R : List As} (h : Hs H' R) (hm : Bas H ∈ R) => rx h hm 1 (by omega)
  have rx2 := fun {H' : Heap} {R : List As} (h : Hs H' R) (hm : Bas H ∈ R) => rx h hm 2 (by omega)
  have ry1 := fun {H' : Heap} {R : List As} (h : Hs H' R) (hm : Bas H ∈ R) => ry h hm 1 (by omega)
  have ry2 := fun {H' : Heap} {R : List As} (h : Hs H' R) (hm : Bas H ∈ R) => ry h hm 2 (by omega)
  clear rx ry
  generalize as[0] = n0 at *
  generalize as[1] = n1 at *
  generalize as[2] = n2 at *
  generalize bs[0] = l0 at *
  generalize bs[1] = l1 at *
  generalize bs[2] = l2 at *
  rw [Nat.add_zero] at rx0 ry0
  have z0 : (0 : Int).toNat = 0 := rfl
  have z1 : (1 : Int).toNat = 1 := rfl
  have z2 : (2 : Int).toNat = 2 := rfl
  simp -implicitDefEqProofs -dsimp (disch := omega) only [go_sem, Nat.reduceEqDiff, ↓reduceIte, Nat.reduceAdd, Nat.reduceMul, Nat.reduceSub, Nat.reduceLT, Nat.reduceLeDiff, Int.reduceLT, Int.reduceLE, Int.reduceEq, Int.reduceNeg, Int.reduceAdd, Int.reduceMul, Int.reduceSub, Int.reduceToNat, reduceCtorEq, dec_t, dec_f, c, z0, Nat.zero_mul, Nat.add_zero, rx0]
  refine within_ct hq.within (n := 80) i0 (by omega) (by omega) ?_
  have hw : (n0 % (80 : Nat)).toNat < 80 := by omega
  generalize (n0 % (80 : Nat)).toNat = w0 at hw ⊢
  have ew : (1 : Int) + (w0 : Int) = ((w0 + 1 : Nat) : Int) := by omega
  simp -implicitDefEqProofs -dsimp (disch := omega) only [go_sem, Nat.reduceEqDiff, ↓reduceIte, Nat.reduceAdd, Nat.reduceMul, Nat.reduceSub, Nat.reduceLT, Nat.reduceLeDiff, Int.reduceLT, Int.reduceLE, Int.reduceEq, Int.reduceNeg, Int.reduceAdd, Int.reduceMul, Int.reduceSub, Int.reduceToNat, reduceCtorEq, dec_t, dec_f, c, w64, ew, z0, Nat.zero_mul, Nat.add_zero, ry0]
  refine within_ct hq.within (n := 20) j0 (by omega) (by omega) ?_
  have hh : (l0 % (20 : Nat)).toNat < 20 := by omega
  generalize (l0 % (20 : Nat)).toNat = h0 at hh ⊢
  have eh : (1 : Int) + (h0 : Int) = ((h0 + 1 : Nat) : Int) := by omega
  simp -implicitDefEqProofs -dsimp (disch := omega) only [go_sem, Nat.reduceEqDiff, ↓reduceIte, Nat.reduceAdd, Nat.reduceMul, Nat.reduceSub, Nat.reduceLT, Nat.reduceLeDiff, Int.reduceLT, Int.reduceLE, Int.reduceEq, Int.reduceNeg, Int.reduceAdd, Int.reduceMul, Int.reduceSub, Int.reduceToNat, reduceCtorEq, dec_t, dec_f, w64, eh]
  have hw1 : 1 ≤ w0 + 1 ∧ w0 + 1 ≤ 80 := by omega
  have hh1 : 1 ≤ h0 + 1 ∧ h0 + 1 ≤ 20 := by omega
  generalize w0 + 1 = w at *
  generalize h0 + 1 = h at *
  clear ew eh
  refine docNew_ct hq.doc h1 fun d H2 h2 => ?_
  simp -implicitDefEqProofs -dsimp (disch := omega) only [go_sem, Nat.reduceEqDiff, ↓reduceIte, Nat.reduceAdd, Nat.reduceMul, Nat.reduceSub, Nat.reduceLT, Nat.reduceLeDiff, Int.reduceLT, Int.reduceLE, Int.reduceEq, Int.reduceNeg, Int.reduceAdd, Int.reduceMul, Int.reduceSub, Int.reduceToNat, reduceCtorEq, dec_t, dec_f, ]
  have harea : w * h ≤ 80 * 20 := Nat.mul_le_mul hw1.2 hh1.2
  have hsz : sizeOk w h := ⟨by omega, by omega, by rw [← Int.natCast_mul]; omega⟩
  refine loop_dec (σ := NpS) (fun x => 3 - x.k) (fun x => ⟨[(1, .ptr (some (p, 0))), (3, .int .i64 w), (4, .int .i64 h), (5, .ptr (some (d, 0))), (6, .int .i64 (x.k : Nat))], []⟩) (NpS.ok d w h _) (fun x H3 K ok hn hxx hrr => ?_) ⟨0, [], [], .sl none 0 0 0, .sl none 0 0 0⟩ H2 ⟨by simp, rfl, (fun _ h => by cases h), by simp, h2⟩
  obtain ⟨k, PL, SL, vp, vs⟩ := x
  obtain ⟨hk, hkl, hall, hsl, h3⟩ := ok
  dsimp only at hk hkl hall hsl h3 hn ⊢
  by_cases he : k < 3
  · simp -implicitDefEqProofs -dsimp (disch := omega) only [go_sem, Nat.reduceEqDiff, ↓reduceIte, Nat.reduceAdd, Nat.reduceMul, Nat.reduceSub, Nat.reduceLT, Nat.reduceLeDiff, Int.reduceLT, Int.reduceLE, Int.reduceEq, Int.reduceNeg, Int.reduceAdd, Int.reduceMul, Int.reduceSub, Int.reduceToNat, reduceCtorEq, dec_t, dec_f, burinlaw20_DocAlike_l2]
    refine newPage_ct hq.bm hq.doc h3 (by unfold i64r; omega) (by unfold i64r; omega) hsl (by omega) (fun k' => absurd hsz k') (fun _ k64 => by omega) fun _ k64 vp' vs' m cd cn H4 h4 => ?_
    rw [Int.toNat_natCast, Int.toNat_natCast] at h4
    rw [hkl] at h4 ⊢
    simp -implicitDefEqProofs -dsimp (disch := omega) only [go_sem, Nat.reduceEqDiff, ↓reduceIte, Nat.reduceAdd, Nat.reduceMul, Nat.reduceSub, Nat.reduceLT, Nat.reduceLeDiff, Int.reduceLT, Int.reduceLE, Int.reduceEq, Int.reduceNeg, Int.reduceAdd, Int.reduceMul, Int.reduceSub, Int.reduceToNat, reduceCtorEq, dec_t, dec_f, w64, cadd1]
    refine hn ⟨k + 1, PL ++ [⟨m, w, h, wh0⟩], push SL (.new cd cn k), vp', vs'⟩ H4 (by dsimp only; omega) ⟨by dsimp only; omega, by simp [hkl], fun r hr => ?_, push_len hsl, h4⟩
    rcases List.mem_append.1 hr with hr | hr
    · exact hall r hr
    · rw [List.mem_singleton] at hr; subst hr; exact ⟨rfl, rfl, rfl⟩
  obtain rfl : k = 3 := by omega
  simp -implicitDefEqProofs -dsimp (disch := omega) only [go_sem, Nat.reduceEqDiff, ↓reduceIte, Nat.reduceAdd, Nat.reduceMul, Nat.reduceSub, Nat.reduceLT, Nat.reduceLeDiff, Int.reduceLT, Int.reduceLE, Int.reduceEq, Int.reduceNeg, Int.reduceAdd, Int.reduceMul, Int.reduceSub, Int.reduceToNat, reduceCtorEq, dec_t, dec_f, burinlaw20_DocAlike_l2]
  rw [hxx]
  obtain ⟨m0, m1, m2, rfl⟩ := three hkl hall
  have mp : Cel p [.sl (some (b1, o1)) as.length c1 1, .sl (some (b2, o2)) bs.length c2 1] ∈ DocL d vp vs [⟨m0, w, h, wh0⟩, ⟨m1, w, h, wh0⟩, ⟨m2, w, h, wh0⟩] SL [Cel p [.sl (some (b1, o1)) as.length c1 1, .sl (some (b2, o2)) bs.length c2 1], Bas H] := docT (by simp)
  have mb : Bas H ∈ DocL d vp vs [⟨m0, w, h, wh0⟩, ⟨m1, w, h, wh0⟩, ⟨m2, w, h, wh0⟩] SL [Cel p [.sl (some (b1, o1)) as.length c1 1, .sl (some (b2, o2)) bs.length c2 1], Bas H] := docT (by simp)
  have c := rd_s (h3.celm mp)
  simp -implicitDefEqProofs -dsimp (disch := omega) only [go_sem, Nat.reduceEqDiff, ↓reduceIte, Nat.reduceAdd, Nat.reduceMul, Nat.reduceSub, Nat.reduceLT, Nat.reduceLeDiff, Int.reduceLT, Int.reduceLE, Int.reduceEq, Int.reduceNeg, Int.reduceAdd, Int.reduceMul, Int.reduceSub, Int.reduceToNat, reduceCtorEq, dec_t, dec_f, c, z1, Nat.one_mul, rx1 h3 mb]
  refine within_ct hq.within (n := 90) i1 (by omega) (by omega) ?_
  have hx1 : (n1 % (90 : Nat)).toNat < 90 := by omega
  generalize (n1 % (90 : Nat)).toNat = xn at hx1 ⊢
  simp -implicitDefEqProofs -dsimp (disch := omega) only [go_sem, Nat.reduceEqDiff, ↓reduceIte, Nat.reduceAdd, Nat.reduceMul, Nat.reduceSub, Nat.reduceLT, Nat.reduceLeDiff, Int.reduceLT, Int.reduceLE, Int.reduceEq, Int.reduceNeg, Int.reduceAdd, Int.reduceMul, Int.reduceSub, Int.reduceToNat, reduceCtorEq, dec_t, dec_f, c, w64, z1, Nat.one_mul, ry1 h3 mb]
  refine within_ct hq.within (n := 30) j1 (by omega) (by omega) ?_
  have hy1 : (l1 % (30 : Nat)).toNat < 30 := by omega
  generalize (l1 % (30 : Nat)).toNat = yn at hy1 ⊢
  simp -implicitDefEqProofs -dsimp (disch := omega) only [go_sem, Nat.reduceEqDiff, ↓reduceIte, Nat.reduceAdd, Nat.reduceMul, Nat.reduceSub, Nat.reduceLT, Nat.reduceLeDiff, Int.reduceLT, Int.reduceLE, Int.reduceEq, Int.reduceNeg, Int.reduceAdd, Int.reduceMul, Int.reduceSub, Int.reduceToNat, reduceCtorEq, dec_t, dec_f, c, w64, z2, Nat.mul_one, rx2 h3 mb]
  refine within_ct hq.within (n := 90) i2 (by omega) (by omega) ?_
  have ha1 : (n2 % (90 : Nat)).toNat < 90 := by omega
  generalize (n2 % (90 : Nat)).toNat = a at ha1 ⊢
  simp -implicitDefEqProofs -dsimp (disch := omega) only [go_sem, Nat.reduceEqDiff, ↓reduceIte, Nat.reduceAdd, Nat.reduceMul, Nat.reduceSub, Nat.reduceLT, Nat.reduceLeDiff, Int.reduceLT, Int.reduceLE, Int.reduceEq, Int.reduceNeg, Int.reduceAdd, Int.reduceMul, Int.reduceSub, Int.reduceToNat, reduceCtorEq, dec_t, dec_f, c, w64, z2, Nat.mul_one, ry2 h3 mb]
  refine within_ct hq.within (n := 30) j2 (by omega) (by omega) ?_
  have hb1 : (l2 % (30 : Nat)).toNat < 30 := by omega
  generalize (l2 % (30 : Nat)).toNat = b at hb1 ⊢
  obtain ⟨x, ex⟩ : ∃ x : Int, (xn : Int) - 5 = x := ⟨_, rfl⟩
  obtain ⟨y, ey⟩ : ∃ y : Int, (yn : Int) - 5 = y := ⟨_, rfl⟩
  simp -implicitDefEqProofs -dsimp (disch := omega) only [go_sem, Nat.reduceEqDiff, ↓reduceIte, Nat.reduceAdd, Nat.reduceMul, Nat.reduceSub, Nat.reduceLT, Nat.reduceLeDiff, Int.reduceLT, Int.reduceLE, Int.reduceEq, Int.reduceNeg, Int.reduceAdd, Int.reduceMul, Int.reduceSub, Int.reduceToNat, reduceCtorEq, dec_t, dec_f, w64, ex, ey]
  have ef : fillR (a : Int) (b : Int) 1 = 0 := by unfold fillR; rw [if_neg (by omega), if_pos (Or.inr rfl)]
  refine docFill_ct hq.bm hq.doc (page := 0) (by unfold i64r; omega) (by unfold i64r; omega) (by unfold i64r; omega) (by unfold i64r; omega) h3 hsl (fun k => absurd (by simp) k) (fun i hi e k => absurd ef k) fun i hi e k cb cd cp v vs2 H4 h4 => ?_
  obtain rfl : i = 0 := by omega
  obtain ⟨q0, eq0⟩ : ∃ q, fillQ wh0 x y a b 1 = q := ⟨_, rfl⟩
  have hq0 : ∀ i j, q0 i j = decide ((x ≤ (i : Nat) ∧ (i : Int) < x + a) ∧ y ≤ (j : Nat) ∧ (j : Int) < y + b) := fun i j => by
    rw [← eq0]; unfold fillQ; rw [if_pos ef]; unfold fillP
    by_cases c : (x ≤ (i : Nat) ∧ (i : Int) < x + a) ∧ y ≤ (j : Nat) ∧ (j : Int) < y + b
    · rw [if_pos (by omega), decide_eq_true c]; rfl
    · rw [if_neg (by omega), decide_eq_false c]; rfl
  have es : pr2 wh0 bl1 x y 0 a 0 0 0 = wh0 := by funext i j; exact pr2_start i j
  have h4 : Al3 H4 d w h m0 m1 m2 q0 (pr2 wh0 bl1 x y 0 a 0 0 0) vp [Cel p [.sl (some (b1, o1)) as.length c1 1, .sl (some (b2, o2)) bs.length c2 1], Bas H] := by
    rw [es, ← eq0]; exact ⟨vs2, _, push_len hsl, h4⟩
  simp -implicitDefEqProofs -dsimp (disch := omega) only [go_sem, Nat.reduceEqDiff, ↓reduceIte, Nat.reduceAdd, Nat.reduceMul, Nat.reduceSub, Nat.reduceLT, Nat.reduceLeDiff, Int.reduceLT, Int.reduceLE, Int.reduceEq, Int.reduceNeg, Int.reduceAdd, Int.reduceMul, Int.reduceSub, Int.reduceToNat, reduceCtorEq, dec_t, dec_f, ]
  refine alike_rows hq.bm hq.doc (d := d) (w := w) (h := h) (a := a) (b := b) (x := x) (y := y) (j0 := y) rfl hw1 hh1 (by omega) (by omega) ha1 hb1 h4 fun H5 j ex2 ⟨vs3, SL3, hsl3, h5⟩ => ?_
  obtain ⟨p1, ep1⟩ : ∃ q, pr2 wh0 bl1 x y 0 a 0 b 0 = q := ⟨_, rfl⟩
  have hp1 : ∀ i j, p1 i j = q0 i j := fun i j => by
    have := pr2_end (p := wh0) (f := bl1) (X := x) (Y := y) (a := 0) (c := a) (d := 0) (e := b) i j
    rw [Nat.zero_max, ep1] at this
    rw [this, hq0]
    by_cases c : (x ≤ (i : Nat) ∧ (i : Int) < x + a) ∧ y ≤ (j : Nat) ∧ (j : Int) < y + b
    · rw [if_pos (by omega), decide_eq_true c]; rfl
    · rw [if_neg (by omega), decide_eq_false c]; rfl
  rw [ep1] at h5
  unfold AlF
  simp -implicitDefEqProofs -dsimp (disch := omega) only [go_sem, Nat.reduceEqDiff, ↓reduceIte, Nat.reduceAdd, Nat.reduceMul, Nat.reduceSub, Nat.reduceLT, Nat.reduceLeDiff, Int.reduceLT, Int.reduceLE, Int.reduceEq, Int.reduceNeg, Int.reduceAdd, Int.reduceMul, Int.reduceSub, Int.reduceToNat, reduceCtorEq, dec_t, dec_f, List.append_eq, List.cons_append, List.nil_append]
  have eb : blitR (w : Int) (h : Int) 4 = 0 := by unfold blitR; rw [if_neg (by omega), if_neg (by omega)]
  refine docBlit_ct hq.bm hq.doc (from_ := 0) (to_ := 2) (by decide) (by decide) (by unfold i64r; omega) (by unfold i64r; omega) (by decide) (by decide) (by decide) h5 hsl3 (fun k => by simp at k) (fun j i hj hi _ _ k => absurd eb k) fun j i hj hi e1 e2 k cb cd cp v vs4 H6 h6 => ?_
  obtain rfl : j = 0 := by omega
  obtain rfl : i = 2 := by omega
  obtain ⟨q2, eq2⟩ : ∃ q, blitQ wh0 q0 w h 0 0 w h 0 0 4 = q := ⟨_, rfl⟩
  have hq2 : ∀ i j, i < w → j < h → q2 i j = q0 i j := fun i j hi hj => by
    rw [← eq2]; unfold blitQ; rw [if_pos eb]; unfold blitP
    rw [if_pos (by omega)]
    show q0 _ _ = q0 i j
    congr 1 <;> omega
  generalize hS : St.put cb cd cp v _ _ _ 2 = S at h6
  have hmay : S.may 3 := by rw [← hS]; show 2 < 3; omega
  have hback : ∀ K, (S.back K).length = K.length := fun K => by rw [← hS]; simp [St.back]
  have h6 : Hs H6 (DocL d vp vs4 [⟨m0, w, h, q0⟩, ⟨m1, w, h, p1⟩, ⟨m2, w, h, q2⟩] ((if SL3.length = 64 then SL3.drop 1 else SL3) ++ [S]) [Cel p [.sl (some (b1, o1)) as.length c1 1, .sl (some (b2, o2)) bs.length c2 1], Bas H]) := by rw [← eq2]; exact h6
  have hsl4 : (if SL3.length = 64 then SL3.drop 1 else SL3).length ≤ 64  := by
    split
    · rw [List.length_drop]; omega
    · exact hsl3
  generalize (if SL3.length = 64 then SL3.drop 1 else SL3) = SL4 at *
  simp -implicitDefEqProofs -dsimp (disch := omega) only [go_sem, Nat.reduceEqDiff, ↓reduceIte, Nat.reduceAdd, Nat.reduceMul, Nat.reduceSub, Nat.reduceLT, Nat.reduceLeDiff, Int.reduceLT, Int.reduceLE, Int.reduceEq, Int.reduceNeg, Int.reduceAdd, Int.reduceMul, Int.reduceSub, Int.reduceToNat, reduceCtorEq, dec_t, dec_f, ]
  refine page_ct hq.bm hq.doc (page := 0) h6 (fun k => absurd (by simp) k) fun i hi e v0 H7 h7 => ?_
  obtain rfl : i = 0 := by omega
  have h7 : Hs H7 (BmA v0 w h q0 :: DocL d vp vs4 [⟨m0, w, h, q0⟩, ⟨m1, w, h, p1⟩, ⟨m2, w, h, q2⟩] (SL4 ++ [S]) [Cel p [.sl (some (b1, o1)) as.length c1 1, .sl (some (b2, o2)) bs.length c2 1], Bas H]) := h7
  have shp : ∀ {H' : Heap} {v : V} {p : Nat → Nat → Bool} {R : List As}, Hs H' (BmA v w h p :: R) → ∃ a n c e, v = V.sl a n c e := fun h => by obtain ⟨vb, kv⟩ := bmV h; exact ⟨_, _, _, _, kv.val⟩
  obtain ⟨xa, xn', xc, xe, hv0⟩ := shp h7
  have h8 := h7.alloc (l := [.int .i64 w, .int .i64 h, v0])
  rw [hv0]
  simp -implicitDefEqProofs -dsimp (disch := omega) only [go_sem, Nat.reduceEqDiff, ↓reduceIte, Nat.reduceAdd, Nat.reduceMul, Nat.reduceSub, Nat.reduceLT, Nat.reduceLeDiff, Int.reduceLT, Int.reduceLE, Int.reduceEq, Int.reduceNeg, Int.reduceAdd, Int.reduceMul, Int.reduceSub, Int.reduceToNat, reduceCtorEq, dec_t, dec_f, List.getElem_cons_zero, List.getElem_cons_succ]
  rw [← hv0]
  generalize H7.new _ = H8 at *
  generalize H7.next = b17 at *
  have h8 := docIn (A := [Cel b17 [.int .i64 w, .int .i64 h, v0], BmA v0 w h q0]) h8
  refine page_ct hq.bm hq.doc (page := 1) h8 (fun k => absurd (by simp) k) fun i hi e v1 H9 h9 => ?_
  obtain rfl : i = 1 := by omega
  have h9 : Hs H9 (BmA v1 w h p1 :: _) := h9
  obtain ⟨ya, yn', yc, ye, hv1⟩ := shp h9
  have h10 := h9.alloc (l := [.int .i64 w, .int .i64 h, v1])
  rw [hv1]
  simp -implicitDefEqProofs -dsimp (disch := omega) only [go_sem, Nat.reduceEqDiff, ↓reduceIte, Nat.reduceAdd, Nat.reduceMul, Nat.reduceSub, Nat.reduceLT, Nat.reduceLeDiff, Int.reduceLT, Int.reduceLE, Int.reduceEq, Int.reduceNeg, Int.reduceAdd, Int.reduceMul, Int.reduceSub, Int.reduceToNat, reduceCtorEq, dec_t, dec_f, List.getElem_cons_zero, List.getElem_cons_succ]
  rw [← hv1]
  generalize H9.new _ = H10 at *
  generalize H9.next = b19 at *
  have h10 := docIn (A := [Cel b19 [.int .i64 w, .int .i64 h, v1], BmA v1 w h p1]) h10
  refine page_ct hq.bm hq.doc (page := 2) h10 (fun k => absurd (by simp) k) fun i hi e v2 H11 h11 => ?_
  obtain rfl : i = 2 := by omega
  have h11 : Hs H11 (BmA v2 w h q2 :: _) := h11
  obtain ⟨za, zn', zc, ze, hv2⟩ := shp h11
  have h12 := h11.alloc (l := [.int .i64 w, .int .i64 h, v2])
  have r17 := rd_bm h12 (b := b17) (l := [.int .i64 w, .int .i64 h, v0]) (by simp [DocL]) 3 rfl
  have r19 := rd_bm h12 (b := b19) (l := [.int .i64 w, .int .i64 h, v1]) (by simp [DocL]) 3 rfl
  rw [hv2] at h12 r17 r19 ⊢
  simp -implicitDefEqProofs -dsimp (disch := omega) only [go_sem, Nat.reduceEqDiff, ↓reduceIte, Nat.reduceAdd, Nat.reduceMul, Nat.reduceSub, Nat.reduceLT, Nat.reduceLeDiff, Int.reduceLT, Int.reduceLE, Int.reduceEq, Int.reduceNeg, Int.reduceAdd, Int.reduceMul, Int.reduceSub, Int.reduceToNat, reduceCtorEq, dec_t, dec_f, List.getElem_cons_zero, List.getElem_cons_succ, r17, r19]
  rw [← hv2] at h12 ⊢
  generalize H11.new _ = H12 at *
  generalize H11.next = b21 at *
  have len : ∀ q, (Wds w h q).length ≤ 281474976710656 := fun q => by
    rw [Wds_length]
    have := wds_le (w := w) (h := h) (by omega) hw1.1
    omega
  refine eqb_ct hq.rz h12 (w1 := w) (h1 := h) (w2 := w) (h2 := h) (h12.bmarr (v := v0) (w := w) (h := h) (p := q0) (by simp [DocL])) (h12.bmarr (v := v1) (w := w) (h := h) (p := p1) (by simp [DocL])) (len _) fun H13 h13 _ => ?_
  rw [decide_eq_true (show (w : Int) = w ∧ (h : Int) = h ∧ Wds w h q0 = Wds w h p1 from ⟨rfl, rfl, Wds_congr fun i j _ _ => (hp1 i j).symm⟩)]
  have r17 := rd_bm h13 (b := b17) (l := [.int .i64 w, .int .i64 h, v0]) (by simp [DocL]) 3 rfl
  have r21 := rd_bm h13 (List.mem_cons_self ..) 3 rfl
  simp -implicitDefEqProofs -dsimp (disch := omega) only [go_sem, Nat.reduceEqDiff, ↓reduceIte, Nat.reduceAdd, Nat.reduceMul, Nat.reduceSub, Nat.reduceLT, Nat.reduceLeDiff, Int.reduceLT, Int.reduceLE, Int.reduceEq, Int.reduceNeg, Int.reduceAdd, Int.reduceMul, Int.reduceSub, Int.reduceToNat, reduceCtorEq, dec_t, dec_f, r17, r21]
  refine eqb_ct hq.rz h13 (w1 := w) (h1 := h) (w2 := w) (h2 := h) (h13.bmarr (v := v0) (w := w) (h := h) (p := q0) (by simp [DocL])) (h13.bmarr (v := v2) (w := w) (h := h) (p := q2) (by simp [DocL])) (len _) fun H14 h14 _ => ?_
  rw [decide_eq_true (show (w : Int) = w ∧ (h : Int) = h ∧ Wds w h q0 = Wds w h q2 from ⟨rfl, rfl, Wds_congr fun i j hi hj => (hq2 i j hi hj).symm⟩)]
  have h15 := docIn (A := [Cel b21 [.int .i64 w, .int .i64 h, v2], BmA v2 w h q2]) h14
  simp -implicitDefEqProofs -dsimp (disch := omega) only [go_sem, Nat.reduceEqDiff, ↓reduceIte, Nat.reduceAdd, Nat.reduceMul, Nat.reduceSub, Nat.reduceLT, Nat.reduceLeDiff, Int.reduceLT, Int.reduceLE, Int.reduceEq, Int.reduceNeg, Int.reduceAdd, Int.reduceMul, Int.reduceSub, Int.reduceToNat, reduceCtorEq, dec_t, dec_f, ]
  refine undo_ct hq.bm hq.doc (SL := SL4) (S := S) h15 hsl4 hmay fun vp5 vs5 PL5 H15 e5 h16 => ?_
  have hl5 : PL5.length = 3 := by
    have := congrArg List.length e5
    rw [hback, List.length_map] at this
    simpa using this
  simp -implicitDefEqProofs -dsimp (disch := omega) only [go_sem, Nat.reduceEqDiff, ↓reduceIte, Nat.reduceAdd, Nat.reduceMul, Nat.reduceSub, Nat.reduceLT, Nat.reduceLeDiff, Int.reduceLT, Int.reduceLE, Int.reduceEq, Int.reduceNeg, Int.reduceAdd, Int.reduceMul, Int.reduceSub, Int.reduceToNat, reduceCtorEq, dec_t, dec_f, ]
  refine pages_ct hq.doc h16 ?_
  rw [hl5]
  simp -implicitDefEqProofs -dsimp (disch := omega) only [go_sem, Nat.reduceEqDiff, ↓reduceIte, Nat.reduceAdd, Nat.reduceMul, Nat.reduceSub, Nat.reduceLT, Nat.reduceLeDiff, Int.reduceLT, Int.reduceLE, Int.reduceEq, Int.reduceNeg, Int.reduceAdd, Int.reduceMul, Int.reduceSub, Int.reduceToNat, reduceCtorEq, dec_t, dec_f, ]
  refine wakes20_ct hq.bm hq.rz hq.doc h16 fun H16 _ => ?_
  simp -implicitDefEqProofs -dsimp (disch := omega) only [go_sem, Nat.reduceEqDiff, ↓reduceIte, Nat.reduceAdd, Nat.reduceMul, Nat.reduceSub, Nat.reduceLT, Nat.reduceLeDiff, Int.reduceLT, Int.reduceLE, Int.reduceEq, Int.reduceNeg, Int.reduceAdd, Int.reduceMul, Int.reduceSub, Int.reduceToNat, reduceCtorEq, dec_t, dec_f, ]
theorem law_DocAlike {P : Prog} (hp : HasL20w P) (hg : P 151 = some burinlaw20_DocAlike) (H : Heap) (cs : List V) (x : TD.Ty (.agg [.sl 8 (.int .i64), .sl 8 (.int .i64)])) (h : Is H (.agg [.sl 8 (.int .i64), .sl 8 (.int .i64)]) cs x) : Call P 151 [argV (.agg [.sl 8 (.int .i64), .sl 8 (.int .i64)]) cs] H fun o _ => o = .ret (.bool true) := by
  obtain ⟨a, r, e, h1, a2, r2, e2, h2, h3⟩ := h
  obtain ⟨v1, k1, k2, k3, k4⟩ := Is.ints h1
  obtain ⟨v2, l1, l2, l3, l4⟩ := Is.ints h2
  have ek : ∀ z : Int, inK .i64 z → i64r z := fun z hz => hz
  have := docAlike hp hg k2 l2 (fun z hz => ek z (k3 z hz)) (fun z hz => ek z (l3 z hz))
  rw [show cs = [v1, v2] by rw [e, e2, k1, l1, show r2 = [] from h3]; rfl]
  exact this
end Go.Ab
