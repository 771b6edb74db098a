/- The law RunsMirrored. Conditions: none. -/
import Derived.Test.YtdkgdneiilnppaaRk
import Derived.Test.YtdkgdneiilnppaaPL9Mirrored
set_option linter.all false
namespace Go.Ab
structure HasL9m (P : Prog) : Prop where
  r : HasL9r P
  ref : HasRef2 P
theorem row_of {ST : List As} {b o c n : Nat} {vals : List V} {L : List (Int × Int)} {y : Nat} (hy : y < n) (R : ∀ H', Hs H' ST → Arr H' (.sl (some (b, o)) n c 1) 1 n vals) (S : ∀ H', Hs H' ST → ∃ x, vals[y]? = some x ∧ Arr H' x 2 L.length (rcells L)) {H : Heap} (h : Hs H ST) :
    ∃ a cc e, ∀ H', Hs H' ST → rd H' none b (o + y) = some (.sl a L.length cc e) ∧ Arr H' (.sl a L.length cc e) 2 L.length (rcells L) := by
  obtain ⟨x, e1, a1⟩ := S H h
  obtain ⟨xa, xc, xe, rfl⟩ := a1.shape
  refine ⟨xa, xc, xe, fun H' h' => ?_⟩
  obtain ⟨x', e2, a2⟩ := S H' h'
  rw [e1] at e2
  cases e2
  exact ⟨by rw [(R H' h').rd1 hy, e1], a2⟩
set_option maxHeartbeats 1000000 in
set_option maxRecDepth 4000 in
theorem runsMirrored {P : Prog} (hq : HasL9m P) (hg : P 127 = some burinlaw9_RunsMirrored) {H : Heap} {ow oh : Int} {v : V} {ws : List Nat} (ko : BmOk H ⟨ow, oh, v, ws⟩) :
    Call P 127 [.agg [.int .i64 ow, .int .i64 oh, v]] H fun o _ => o = .ret (.bool true) := by
  have hp := hq.r
  refine call_of hg rfl ?_
  have h1 := (Hs.start H).alloc (l := [.int .i64 ow, .int .i64 oh, v])
  simp -implicitDefEqProofs -dsimp (disch := omega) only [go_sem, Nat.reduceEqDiff, ↓reduceIte, Nat.reduceAdd, Nat.reduceMul, Nat.reduceSub, Nat.reduceLT, Nat.reduceLeDiff, Int.reduceLT, Int.reduceLE, Int.reduceEq, Int.reduceNeg, Int.reduceAdd, Int.reduceMul, Int.reduceSub, Int.reduceToNat, reduceCtorEq, dec_t, dec_f, ]
  generalize H.new _ = H1 at *
  generalize H.next = p at *
  have r1 := rd_bm h1 (List.mem_cons_self ..) 3 rfl
  have hva := fun {H' : Heap} {R : List As} (h : Hs H' R) (hm : Bas H ∈ R) => ko.arr.same (h.bas hm) fun _ _ h => h
  simp -implicitDefEqProofs -dsimp (disch := omega) only [go_sem, Nat.reduceEqDiff, ↓reduceIte, Nat.reduceAdd, Nat.reduceMul, Nat.reduceSub, Nat.reduceLT, Nat.reduceLeDiff, Int.reduceLT, Int.reduceLE, Int.reduceEq, Int.reduceNeg, Int.reduceAdd, Int.reduceMul, Int.reduceSub, Int.reduceToNat, reduceCtorEq, dec_t, dec_f, r1]
  refine may_ct hp.rz h1 (hva h1 (by simp)) ko.lt ko.w ko.h fun q H2 hq2 h2 _ => ?_
  have r2 := rd_bm h2 (List.mem_cons_self ..) 3 rfl
  cases q with
  | false =>
    simp -implicitDefEqProofs -dsimp (disch := omega) only [go_sem, Nat.reduceEqDiff, ↓reduceIte, Nat.reduceAdd, Nat.reduceMul, Nat.reduceSub, Nat.reduceLT, Nat.reduceLeDiff, Int.reduceLT, Int.reduceLE, Int.reduceEq, Int.reduceNeg, Int.reduceAdd, Int.reduceMul, Int.reduceSub, Int.reduceToNat, reduceCtorEq, dec_t, dec_f, ]
    refine wakes9_ct hp.bm hp.rz hp.ru hp.rf h2 fun H3 _ => ?_
    simp -implicitDefEqProofs -dsimp (disch := omega) only [go_sem, Nat.reduceEqDiff, ↓reduceIte, Nat.reduceAdd, Nat.reduceMul, Nat.reduceSub, Nat.reduceLT, Nat.reduceLeDiff, Int.reduceLT, Int.reduceLE, Int.reduceEq, Int.reduceNeg, Int.reduceAdd, Int.reduceMul, Int.reduceSub, Int.reduceToNat, reduceCtorEq, dec_t, dec_f, ]
  | true =>
  have hm := hq2.1 rfl
  have mm := bmM_of ko hm
  have h3 := h2.alloc (l := [.int .i64 ow, .int .i64 oh, v])
  simp -implicitDefEqProofs -dsimp (disch := omega) only [go_sem, Nat.reduceEqDiff, ↓reduceIte, Nat.reduceAdd, Nat.reduceMul, Nat.reduceSub, Nat.reduceLT, Nat.reduceLeDiff, Int.reduceLT, Int.reduceLE, Int.reduceEq, Int.reduceNeg, Int.reduceAdd, Int.reduceMul, Int.reduceSub, Int.reduceToNat, reduceCtorEq, dec_t, dec_f, r2]
  generalize H2.new _ = H3 at *
  generalize H2.next = bx at *
  refine smallK hp.kit ko (l := []) h3 (by simp) ?_
  by_cases hsm : 64 * ws.length + 64 ≤ 60000
  rotate_left
  · rw [decide_eq_false hsm]
    simp -implicitDefEqProofs -dsimp (disch := omega) only [go_sem, Nat.reduceEqDiff, ↓reduceIte, Nat.reduceAdd, Nat.reduceMul, Nat.reduceSub, Nat.reduceLT, Nat.reduceLeDiff, Int.reduceLT, Int.reduceLE, Int.reduceEq, Int.reduceNeg, Int.reduceAdd, Int.reduceMul, Int.reduceSub, Int.reduceToNat, reduceCtorEq, dec_t, dec_f, ]
    refine wakes9_ct hp.bm hp.rz hp.ru hp.rf h3 fun H3 _ => ?_
    simp -implicitDefEqProofs -dsimp (disch := omega) only [go_sem, Nat.reduceEqDiff, ↓reduceIte, Nat.reduceAdd, Nat.reduceMul, Nat.reduceSub, Nat.reduceLT, Nat.reduceLeDiff, Int.reduceLT, Int.reduceLE, Int.reduceEq, Int.reduceNeg, Int.reduceAdd, Int.reduceMul, Int.reduceSub, Int.reduceToNat, reduceCtorEq, dec_t, dec_f, ]
  rw [decide_eq_true hsm]
  have h4 := h3.tail
  have r4 := rd_bm h4 (List.mem_cons_self ..) 3 rfl
  simp -implicitDefEqProofs -dsimp (disch := omega) only [go_sem, Nat.reduceEqDiff, ↓reduceIte, Nat.reduceAdd, Nat.reduceMul, Nat.reduceSub, Nat.reduceLT, Nat.reduceLeDiff, Int.reduceLT, Int.reduceLE, Int.reduceEq, Int.reduceNeg, Int.reduceAdd, Int.reduceMul, Int.reduceSub, Int.reduceToNat, reduceCtorEq, dec_t, dec_f, r4]
  have mw : Wds ow.toNat oh.toNat (pixOf ow.toNat ws) = ws := mm.words
  have w1 : 1 ≤ ow.toNat := mm.w1
  have e1 : 1 ≤ oh.toNat := mm.h1
  have ar : ow.toNat * oh.toNat ≤ 1048576 := mm.area
  have wl : ws.length = oh.toNat * wds ow.toNat := mm.len
  have hlen := ko.len
  dsimp only at hlen
  refine copyR_ct hp.rz h4 (hva h4 (by simp)) (by dsimp only; omega) fun c H5 h5 _ => ?_
  obtain ⟨wn, rfl⟩ : ∃ n : Nat, ow = n := ⟨_, mm.w⟩
  obtain ⟨hn, rfl⟩ : ∃ n : Nat, oh = n := ⟨_, mm.h⟩
  simp only [Int.toNat_natCast] at mw w1 e1 ar wl
  have wl2 : wn ≤ 1048576 := by have := Nat.le_mul_of_pos_right wn (show 0 < hn by omega); omega
  have hl2 : hn ≤ 1048576 := by have := Nat.le_mul_of_pos_left hn (show 0 < wn by omega); omega
  have hd : 1 ≤ wn ∧ 1 ≤ hn ∧ wn * hn ≤ 1048576 := ⟨w1, e1, ar⟩
  generalize hpx : pixOf wn ws = px at *
  have h5 : Hs H5 (BmA c wn hn px :: Cel p [.int .i64 wn, .int .i64 hn, v] :: [Bas H]) := bmA_of (by rw [mw]; exact h5) hd
  obtain ⟨ca, cn, cc, ce, hc⟩ : ∃ a n c' e, c = V.sl a n c' e := by obtain ⟨vb, kv⟩ := bmV h5; exact ⟨_, _, _, _, kv.val⟩
  have h6 := h5.alloc (l := [.int .i64 wn, .int .i64 hn, c])
  have r6 := rd_bm h6 (List.mem_cons_self ..) 3 rfl
  rw [hc] at h6 r6 ⊢
  simp -implicitDefEqProofs -dsimp (disch := omega) only [go_sem, Nat.reduceEqDiff, ↓reduceIte, Nat.reduceAdd, Nat.reduceMul, Nat.reduceSub, Nat.reduceLT, Nat.reduceLeDiff, Int.reduceLT, Int.reduceLE, Int.reduceEq, Int.reduceNeg, Int.reduceAdd, Int.reduceMul, Int.reduceSub, Int.reduceToNat, reduceCtorEq, dec_t, dec_f, r6]
  rw [← hc] at h6 r6 ⊢
  generalize H5.new _ = H6 at *
  generalize H5.next = b3 at *
  refine invB_ct hq.ref hp.rz (Hs.perm h6 (List.Perm.swap _ _ _)) fun H7 h7 => ?_
  have r7 := rd_bm h7 (b := p) (l := [.int .i64 wn, .int .i64 hn, v]) (by simp) 3 rfl
  simp -implicitDefEqProofs -dsimp (disch := omega) only [go_sem, Nat.reduceEqDiff, ↓reduceIte, Nat.reduceAdd, Nat.reduceMul, Nat.reduceSub, Nat.reduceLT, Nat.reduceLeDiff, Int.reduceLT, Int.reduceLE, Int.reduceEq, Int.reduceNeg, Int.reduceAdd, Int.reduceMul, Int.reduceSub, Int.reduceToNat, reduceCtorEq, dec_t, dec_f, r7]
  refine runsOf_ct hp.bm hp.ru h7 (fun H' h' => hva h' (by simp)) ko.lt ko.w ko.h (fun k => absurd hm k) fun _ ov1 RL1 H8 hrl1 h8 => ?_
  dsimp only at hrl1
  rw [Int.toNat_natCast, Int.toNat_natCast, hpx] at hrl1
  have r8 := rd_bm h8 (b := p) (l := [.int .i64 wn, .int .i64 hn, v]) (by simp [StR]) 3 rfl
  simp -implicitDefEqProofs -dsimp (disch := omega) only [go_sem, Nat.reduceEqDiff, ↓reduceIte, Nat.reduceAdd, Nat.reduceMul, Nat.reduceSub, Nat.reduceLT, Nat.reduceLeDiff, Int.reduceLT, Int.reduceLE, Int.reduceEq, Int.reduceNeg, Int.reduceAdd, Int.reduceMul, Int.reduceSub, Int.reduceToNat, reduceCtorEq, dec_t, dec_f, r8]
  refine mirrorB_ct hq.ref hp.rz h8 (p := px) ((src_o ko mm (by simp [StR])).congr fun x y _ _ => by rw [← hpx]; rfl) fun v2 H9 h9 => ?_
  simp -implicitDefEqProofs -dsimp (disch := omega) only [go_sem, Nat.reduceEqDiff, ↓reduceIte, Nat.reduceAdd, Nat.reduceMul, Nat.reduceSub, Nat.reduceLT, Nat.reduceLeDiff, Int.reduceLT, Int.reduceLE, Int.reduceEq, Int.reduceNeg, Int.reduceAdd, Int.reduceMul, Int.reduceSub, Int.reduceToNat, reduceCtorEq, dec_t, dec_f, ]
  refine runsOfB hp.bm hp.ru h9 hd (List.mem_cons_self ..) fun ov2 RL2 H10 hrl2 h10 => ?_
  have r10 := rd_bm h10 (b := b3) (l := [.int .i64 wn, .int .i64 hn, c]) (by simp [StR]) 3 rfl
  simp -implicitDefEqProofs -dsimp (disch := omega) only [go_sem, Nat.reduceEqDiff, ↓reduceIte, Nat.reduceAdd, Nat.reduceMul, Nat.reduceSub, Nat.reduceLT, Nat.reduceLeDiff, Int.reduceLT, Int.reduceLE, Int.reduceEq, Int.reduceNeg, Int.reduceAdd, Int.reduceMul, Int.reduceSub, Int.reduceToNat, reduceCtorEq, dec_t, dec_f, r10]
  refine runsOfB hp.bm hp.ru h10 hd (v := c) (p := fun i j => !px i j) (by simp [StR]) fun ov3 RL3 H11 hrl3 h11 => ?_
  have R1 : RRd (StR ov3 RL3 (StR ov2 RL2 (BmA v2 wn hn (fun i j => px (wn - 1 - i) j) :: StR ov1 RL1 [BmA c wn hn (fun i j => !px i j), Cel b3 [.int .i64 wn, .int .i64 hn, c], Cel p [.int .i64 wn, .int .i64 hn, v], Bas H]))) ov1 (rowsOf px wn hn) := by
    rw [← hrl1]; exact rrd_st.mono fun H' h' => (str_drop (str_drop h')).tail
  have R2 : RRd (StR ov3 RL3 (StR ov2 RL2 (BmA v2 wn hn (fun i j => px (wn - 1 - i) j) :: StR ov1 RL1 [BmA c wn hn (fun i j => !px i j), Cel b3 [.int .i64 wn, .int .i64 hn, c], Cel p [.int .i64 wn, .int .i64 hn, v], Bas H]))) ov2 (rowsOf (fun i j => px (wn - 1 - i) j) wn hn) := by
    rw [← hrl2]; exact rrd_st.mono fun H' h' => str_drop h'
  have R3 : RRd (StR ov3 RL3 (StR ov2 RL2 (BmA v2 wn hn (fun i j => px (wn - 1 - i) j) :: StR ov1 RL1 [BmA c wn hn (fun i j => !px i j), Cel b3 [.int .i64 wn, .int .i64 hn, c], Cel p [.int .i64 wn, .int .i64 hn, v], Bas H]))) ov3 (rowsOf (fun i j => !px i j) wn hn) := by
    rw [← hrl3]; exact rrd_st
  have mp : Cel p [.int .i64 wn, .int .i64 hn, v] ∈ (StR ov3 RL3 (StR ov2 RL2 (BmA v2 wn hn (fun i j => px (wn - 1 - i) j) :: StR ov1 RL1 [BmA c wn hn (fun i j => !px i j), Cel b3 [.int .i64 wn, .int .i64 hn, c], Cel p [.int .i64 wn, .int .i64 hn, v], Bas H]))) := by simp [StR]
  generalize (StR ov3 RL3 _) = ST at *
  obtain ⟨vals1, R1⟩ := R1
  obtain ⟨vals2, R2⟩ := R2
  obtain ⟨vals3, R3⟩ := R3
  rw [rowsOf_len] at R1 R2 R3
  obtain ⟨vb1, vo1, vc1, rfl⟩ := (R1 _ h11).1.at0 (by omega)
  obtain ⟨vb2, vo2, vc2, rfl⟩ := (R2 _ h11).1.at0 (by omega)
  obtain ⟨vb3, vo3, vc3, rfl⟩ := (R3 _ h11).1.at0 (by omega)
  have S1 := fun H' h' y (hy : y < hn) => (R1 H' h').2 y _ (rowsOf_at (p := px) (w := wn) hy)
  have S2 := fun H' h' y (hy : y < hn) => (R2 H' h').2 y _ (rowsOf_at (p := fun i j => px (wn - 1 - i) j) (w := wn) hy)
  have S3 := fun H' h' y (hy : y < hn) => (R3 H' h').2 y _ (rowsOf_at (p := fun i j => !px i j) (w := wn) hy)
  have R1 := fun H' h' => (R1 H' h').1
  have R2 := fun H' h' => (R2 H' h').1
  have R3 := fun H' h' => (R3 H' h').1
  have c11 := rd_s (h11.celm mp)
  simp -implicitDefEqProofs -dsimp (disch := omega) only [go_sem, Nat.reduceEqDiff, ↓reduceIte, Nat.reduceAdd, Nat.reduceMul, Nat.reduceSub, Nat.reduceLT, Nat.reduceLeDiff, Int.reduceLT, Int.reduceLE, Int.reduceEq, Int.reduceNeg, Int.reduceAdd, Int.reduceMul, Int.reduceSub, Int.reduceToNat, reduceCtorEq, dec_t, dec_f, c11]
  clear hrl1 hrl2 hrl3 r10 h10 r8 r7 r6 h9 h8 h7 h6 c11
  refine loop_cnt hn (fun y => ⟨[(1, .ptr (some (p, 0))), (4, .sl (some (vb1, vo1)) hn vc1 1), (6, .sl (some (vb2, vo2)) hn vc2 1), (8, .sl (some (vb3, vo3)) hn vc3 1), (10, .int .i64 (y : Nat))], []⟩) (fun y H' => Hs H' ST) (fun y H9 K hy h9 hnx hx hrr => ?_) 0 H11 (by omega) h11
  have c9 := rd_s (h9.celm mp)
  by_cases he : y < hn
  · have hM : rl (fun x => px (wn - 1 - x) y) wn = _ := rl_mir (f := fun x => px x y)
    have hN : rl (fun x => !px x y) wn = gaps wn 0 _ := rl_not (f := fun x => px x y)
    have hok := rl_row (f := fun x => px x y) (w := wn) (x := wn) (Nat.le_refl _)
    have hll := rl_len (fun x => px x y) wn
    obtain ⟨a1, cc1, ee1, T1⟩ := row_of (L := rl (fun x => px x y) wn) he R1 (fun H' h' => S1 H' h' y he) h9
    obtain ⟨a2, cc2, ee2, T2⟩ := row_of (L := rl (fun x => px (wn - 1 - x) y) wn) he R2 (fun H' h' => S2 H' h' y he) h9
    obtain ⟨a3, cc3, ee3, T3⟩ := row_of (L := rl (fun x => !px x y) wn) he R3 (fun H' h' => S3 H' h' y he) h9
    have hNl := rl_len (fun x => !px x y) wn
    generalize rl (fun x => px (wn - 1 - x) y) wn = M at *
    generalize rl (fun x => !px x y) wn = N at *
    generalize rl (fun x => px x y) wn = L at *
    have hMl : M.length = L.length := by rw [hM]; simp
    have t1 := (T1 H9 h9).1
    have t2 := (T2 H9 h9).1
    simp -implicitDefEqProofs -dsimp (disch := omega) only [go_sem, Nat.reduceEqDiff, ↓reduceIte, Nat.reduceAdd, Nat.reduceMul, Nat.reduceSub, Nat.reduceLT, Nat.reduceLeDiff, Int.reduceLT, Int.reduceLE, Int.reduceEq, Int.reduceNeg, Int.reduceAdd, Int.reduceMul, Int.reduceSub, Int.reduceToNat, reduceCtorEq, dec_t, dec_f, burinlaw9_RunsMirrored_l0, c9, Int.toNat_natCast, Nat.mul_one, t1, t2, hMl, d_gre]
    refine loop_dec (σ := Nat × Int × List (Int × Int)) (fun x => L.length - x.1) (fun x => ⟨[(1, .ptr (some (p, 0))), (4, .sl (some (vb1, vo1)) hn vc1 1), (6, .sl (some (vb2, vo2)) hn vc2 1), (8, .sl (some (vb3, vo3)) hn vc3 1), (10, .int .i64 (y : Nat)), (11, .int .i64 x.2.1), (12, .int .i64 (x.2.2.length : Nat)), (13, .int .i64 (x.1 : Nat))], []⟩)
      (fun x H' => (x.1 ≤ L.length ∧ N = x.2.2 ++ gaps wn x.2.1 (L.drop x.1) ∧ okRow wn (x.2.1 - 1) (L.drop x.1) = true ∧ 0 ≤ x.2.1 ∧ x.2.1 ≤ wn) ∧ Hs H' ST)
      (fun x H10 K2 ⟨⟨hi, hg, hgo, hat0, hat1⟩, h10⟩ hnx2 hxx2 hrr2 => ?_) (0, 0, []) H9 ⟨⟨Nat.zero_le _, hN, okRow_weak (by decide) hok, Int.le_refl _, by dsimp only; omega⟩, h9⟩
    obtain ⟨i, at_, pre⟩ := x
    dsimp only at hi hg hgo hat0 hat1 hnx2 ⊢
    have c10 := rd_s (h10.celm mp)
    obtain ⟨t1, u1⟩ := T1 H10 h10
    obtain ⟨t2, u2⟩ := T2 H10 h10
    obtain ⟨t3, u3⟩ := T3 H10 h10
    by_cases hil : i < L.length
    · have hdr : L.drop i = L[i] :: L.drop (i + 1) := List.drop_eq_getElem_cons hil
      have hge2 : M[L.length - 1 - i]'(by omega) = mirR wn L[i] := by
        simp only [hM, List.getElem_reverse, List.getElem_map, List.length_map]
        congr 2; omega
      obtain ⟨xb1, xo1, xc1, hxe1⟩ := u1.at0 (by omega)
      cases hxe1
      obtain ⟨xb2, xo2, xc2, hxe2⟩ := u2.at0 (by omega)
      cases hxe2
      have hr1 := run_rd u1 hil
      have hr2 := run_rd u2 (i := L.length - 1 - i) (by omega)
      rw [hge2] at hr2
      rw [hdr] at hg hgo
      generalize L[i] = r at *
      obtain ⟨ra, rb⟩ := r
      simp only [okRow, Bool.and_eq_true, decide_eq_true_eq] at hgo
      obtain ⟨hgo1, hgo2⟩ := hgo
      simp only [mirR] at hr2
      have h11 := h10.alloc (l := [.int .i64 ra, .int .i64 rb])
      have c14 := rd_s h11.cel
      have t1' := (T1 _ h11.tail).1
      have ei : (L.length : Int) - 1 - (i : Int) = ((L.length - 1 - i : Nat) : Int) := by omega
      have c11 := rd_s (h11.celm (b := p) (l := [.int .i64 wn, .int .i64 hn, v]) (by simp [mp]))
      have t2' := T2 _ h11.tail
      have hr2' := run_rd t2'.2 (i := L.length - 1 - i) (by omega)
      rw [hge2] at hr2'
      simp only [mirR] at hr2'
      have h12 := h11.alloc (l := [.int .i64 (wn - rb), .int .i64 (wn - ra)])
      rw [next_new] at h12
      have c12p := rd_s (h12.celm (b := p) (l := [.int .i64 wn, .int .i64 hn, v]) (by simp [mp]))
      have c12 := rd_s h12.cel
      have c12' := rd_s h12.p1.cel
      have fin := fun e (h : N = e ++ gaps wn rb (L.drop (i + 1))) => hnx2 (i + 1, rb, e) ((H10.new (.cells [.int .i64 ra, .int .i64 rb] true)).new (.cells [.int .i64 (wn - rb), .int .i64 (wn - ra)] true)) (by dsimp only; omega) ⟨⟨by dsimp only; omega, h, okRow_weak (by dsimp only; omega) hgo2, by dsimp only; omega, by dsimp only; omega⟩, h12.tail.tail⟩
      dsimp only at fin
      by_cases hga : at_ < ra
      · unfold gaps at hg
        rw [if_pos hga] at hg
        have hln := congrArg List.length hg
        simp only [List.length_append, List.length_cons] at hln
        have hge : N[pre.length]'(by omega) = (at_, ra) := by simp [hg]
        obtain ⟨xb, xo, xc, hxe⟩ := u3.at0 (by omega)
        cases hxe
        obtain ⟨t3', u3'⟩ := T3 _ h12.tail.tail
        have hr3 := run_rd u3' (i := pre.length) (by omega)
        rw [hge] at hr3
        have fin := fin (pre ++ [(at_, ra)]) (by simpa using hg)
        simp only [List.length_append, List.length_cons, List.length_nil, Nat.zero_add] at fin
        simp -implicitDefEqProofs -dsimp (disch := omega) only [go_sem, Nat.reduceEqDiff, ↓reduceIte, Nat.reduceAdd, Nat.reduceMul, Nat.reduceSub, Nat.reduceLT, Nat.reduceLeDiff, Int.reduceLT, Int.reduceLE, Int.reduceEq, Int.reduceNeg, Int.reduceAdd, Int.reduceMul, Int.reduceSub, Int.reduceToNat, reduceCtorEq, dec_t, dec_f, burinlaw9_RunsMirrored_l1, Int.toNat_natCast, Nat.mul_one, t1, hr1, c14, t1', t2'.1, ei, hr2', c12p, c12, c12', t3', hr3, w64, d_gre, eqAgg, eqF, cadd1]
        exact fin
      · unfold gaps at hg
        rw [if_neg hga] at hg
        have fin := fin pre hg
        simp -implicitDefEqProofs -dsimp (disch := omega) only [go_sem, Nat.reduceEqDiff, ↓reduceIte, Nat.reduceAdd, Nat.reduceMul, Nat.reduceSub, Nat.reduceLT, Nat.reduceLeDiff, Int.reduceLT, Int.reduceLE, Int.reduceEq, Int.reduceNeg, Int.reduceAdd, Int.reduceMul, Int.reduceSub, Int.reduceToNat, reduceCtorEq, dec_t, dec_f, burinlaw9_RunsMirrored_l1, Int.toNat_natCast, Nat.mul_one, t1, hr1, c14, t1', t2'.1, ei, hr2', c12p, c12, c12', w64, d_gre, cadd1]
        exact fin
    · obtain rfl : i = L.length := by omega
      rw [List.drop_length] at hg hgo
      have hln := congrArg List.length hg
      rw [List.length_append] at hln
      unfold gaps at hg hln
      by_cases hw : at_ < wn
      · rw [if_pos hw] at hg hln
        have hk : pre.length < N.length := by rw [hln]; simp
        have hk2 : N.length = pre.length + 1 := by rw [hln]; simp
        have hge : N[pre.length] = (at_, (wn : Int)) := by simp [hg]
        obtain ⟨xb, xo, xc, hxe⟩ := u3.at0 (by omega)
        cases hxe
        have hr3 := run_rd u3 hk
        rw [hge] at hr3
        simp -implicitDefEqProofs -dsimp (disch := omega) only [go_sem, Nat.reduceEqDiff, ↓reduceIte, Nat.reduceAdd, Nat.reduceMul, Nat.reduceSub, Nat.reduceLT, Nat.reduceLeDiff, Int.reduceLT, Int.reduceLE, Int.reduceEq, Int.reduceNeg, Int.reduceAdd, Int.reduceMul, Int.reduceSub, Int.reduceToNat, reduceCtorEq, dec_t, dec_f, burinlaw9_RunsMirrored_l1, Int.toNat_natCast, Nat.mul_one, t1]
        rw [hxx2]
        simp -implicitDefEqProofs -dsimp (disch := omega) only [go_sem, Nat.reduceEqDiff, ↓reduceIte, Nat.reduceAdd, Nat.reduceMul, Nat.reduceSub, Nat.reduceLT, Nat.reduceLeDiff, Int.reduceLT, Int.reduceLE, Int.reduceEq, Int.reduceNeg, Int.reduceAdd, Int.reduceMul, Int.reduceSub, Int.reduceToNat, reduceCtorEq, dec_t, dec_f, Int.toNat_natCast, Nat.mul_one, c10, t3, hr3, hk2, d_gre, eqAgg, eqF, w64, cadd1]
        exact hnx he H10 h10
      · rw [if_neg hw] at hg hln
        have hk2 : N.length = pre.length := by rw [hln]; simp
        simp -implicitDefEqProofs -dsimp (disch := omega) only [go_sem, Nat.reduceEqDiff, ↓reduceIte, Nat.reduceAdd, Nat.reduceMul, Nat.reduceSub, Nat.reduceLT, Nat.reduceLeDiff, Int.reduceLT, Int.reduceLE, Int.reduceEq, Int.reduceNeg, Int.reduceAdd, Int.reduceMul, Int.reduceSub, Int.reduceToNat, reduceCtorEq, dec_t, dec_f, burinlaw9_RunsMirrored_l1, Int.toNat_natCast, Nat.mul_one, t1]
        rw [hxx2]
        simp -implicitDefEqProofs -dsimp (disch := omega) only [go_sem, Nat.reduceEqDiff, ↓reduceIte, Nat.reduceAdd, Nat.reduceMul, Nat.reduceSub, Nat.reduceLT, Nat.reduceLeDiff, Int.reduceLT, Int.reduceLE, Int.reduceEq, Int.reduceNeg, Int.reduceAdd, Int.reduceMul, Int.reduceSub, Int.reduceToNat, reduceCtorEq, dec_t, dec_f, Int.toNat_natCast, Nat.mul_one, c10, t3, hk2, w64, cadd1]
        exact hnx he H10 h10
  · obtain rfl : y = hn := by omega
    simp -implicitDefEqProofs -dsimp (disch := omega) only [go_sem, Nat.reduceEqDiff, ↓reduceIte, Nat.reduceAdd, Nat.reduceMul, Nat.reduceSub, Nat.reduceLT, Nat.reduceLeDiff, Int.reduceLT, Int.reduceLE, Int.reduceEq, Int.reduceNeg, Int.reduceAdd, Int.reduceMul, Int.reduceSub, Int.reduceToNat, reduceCtorEq, dec_t, dec_f, burinlaw9_RunsMirrored_l0, c9]
    rw [hx]
    simp -implicitDefEqProofs -dsimp (disch := omega) only [go_sem, Nat.reduceEqDiff, ↓reduceIte, Nat.reduceAdd, Nat.reduceMul, Nat.reduceSub, Nat.reduceLT, Nat.reduceLeDiff, Int.reduceLT, Int.reduceLE, Int.reduceEq, Int.reduceNeg, Int.reduceAdd, Int.reduceMul, Int.reduceSub, Int.reduceToNat, reduceCtorEq, dec_t, dec_f, ]
    refine wakes9_ct hp.bm hp.rz hp.ru hp.rf h9 fun H11 _ => ?_
    simp -implicitDefEqProofs -dsimp (disch := omega) only [go_sem, Nat.reduceEqDiff, ↓reduceIte, Nat.reduceAdd, Nat.reduceMul, Nat.reduceSub, Nat.reduceLT, Nat.reduceLeDiff, Int.reduceLT, Int.reduceLE, Int.reduceEq, Int.reduceNeg, Int.reduceAdd, Int.reduceMul, Int.reduceSub, Int.reduceToNat, reduceCtorEq, dec_t, dec_f, ]
theorem law_RunsMirrored {P : Prog} (hp : HasL9m P) (hg : P 127 = some burinlaw9_RunsMirrored) (H : Heap) (cs : List V) (x : TD.Ty bmTD) (h : Is H bmTD cs x) : Call P 127 [argV bmTD cs] H fun o _ => o = .ret (.bool true) := by
  obtain ⟨o, rfl, k⟩ := is_bm h
  exact runsMirrored hp hg k
end Go.Ab
