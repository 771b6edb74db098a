/- The law RunsRound. Conditions: none. -/
import Derived.Test.YtdkgdneiilnppaaRj
import Derived.Test.YtdkgdneiilnppaaPL9Round
set_option linter.all false
namespace Go.Ab
set_option maxHeartbeats 1000000 in
theorem runsRound {P : Prog} (hp : HasL9r P) (hg : P 125 = some burinlaw9_RunsRound) {H : Heap} {ow oh : Int} {v : V} {ws : List Nat} (ko : BmOk H ⟨ow, oh, v, ws⟩) :
    Call P 125 [.agg [.int .i64 ow, .int .i64 oh, v]] H fun o _ => o = .ret (.bool true) := by
  refine call_of hg rfl ?_
  have h1 := (Hs.start H).alloc (l := [.int .i64 ow, .int .i64 oh, v])
  simp -implicitDefEqProofs -dsimp (disch := omega) only [go_sem, Nat.reduceEqDiff, ↓reduceIte, Nat.reduceAdd, Nat.reduceMul, Nat.reduceSub, Nat.reduceLT, Nat.reduceLeDiff, Int.reduceLT, Int.reduceLE, Int.reduceEq, Int.reduceNeg, Int.reduceAdd, Int.reduceMul, Int.reduceSub, Int.reduceToNat, reduceCtorEq, dec_t, dec_f, ]
  generalize H.new _ = H1 at *
  generalize H.next = p at *
  have r1 := rd_bm h1 (List.mem_cons_self ..) 3 rfl
  have hva := fun {H' : Heap} {R : List As} (h : Hs H' R) (hm : Bas H ∈ R) => ko.arr.same (h.bas hm) fun _ _ h => h
  simp -implicitDefEqProofs -dsimp (disch := omega) only [go_sem, Nat.reduceEqDiff, ↓reduceIte, Nat.reduceAdd, Nat.reduceMul, Nat.reduceSub, Nat.reduceLT, Nat.reduceLeDiff, Int.reduceLT, Int.reduceLE, Int.reduceEq, Int.reduceNeg, Int.reduceAdd, Int.reduceMul, Int.reduceSub, Int.reduceToNat, reduceCtorEq, dec_t, dec_f, r1]
  refine may_ct hp.rz h1 (hva h1 (by simp)) ko.lt ko.w ko.h fun q H2 hq2 h2 _ => ?_
  have r2 := rd_bm h2 (List.mem_cons_self ..) 3 rfl
  cases q with
  | false =>
    simp -implicitDefEqProofs -dsimp (disch := omega) only [go_sem, Nat.reduceEqDiff, ↓reduceIte, Nat.reduceAdd, Nat.reduceMul, Nat.reduceSub, Nat.reduceLT, Nat.reduceLeDiff, Int.reduceLT, Int.reduceLE, Int.reduceEq, Int.reduceNeg, Int.reduceAdd, Int.reduceMul, Int.reduceSub, Int.reduceToNat, reduceCtorEq, dec_t, dec_f, ]
    refine wakes9_ct hp.bm hp.rz hp.ru hp.rf h2 fun H3 _ => ?_
    simp -implicitDefEqProofs -dsimp (disch := omega) only [go_sem, Nat.reduceEqDiff, ↓reduceIte, Nat.reduceAdd, Nat.reduceMul, Nat.reduceSub, Nat.reduceLT, Nat.reduceLeDiff, Int.reduceLT, Int.reduceLE, Int.reduceEq, Int.reduceNeg, Int.reduceAdd, Int.reduceMul, Int.reduceSub, Int.reduceToNat, reduceCtorEq, dec_t, dec_f, ]
  | true =>
  have hm := hq2.1 rfl
  have mm := bmM_of ko hm
  have h3 := h2.alloc (l := [.int .i64 ow, .int .i64 oh, v])
  simp -implicitDefEqProofs -dsimp (disch := omega) only [go_sem, Nat.reduceEqDiff, ↓reduceIte, Nat.reduceAdd, Nat.reduceMul, Nat.reduceSub, Nat.reduceLT, Nat.reduceLeDiff, Int.reduceLT, Int.reduceLE, Int.reduceEq, Int.reduceNeg, Int.reduceAdd, Int.reduceMul, Int.reduceSub, Int.reduceToNat, reduceCtorEq, dec_t, dec_f, r2]
  generalize H2.new _ = H3 at *
  generalize H2.next = bx at *
  refine smallK hp.kit ko (l := []) h3 (by simp) ?_
  by_cases hsm : 64 * ws.length + 64 ≤ 60000
  rotate_left
  · rw [decide_eq_false hsm]
    simp -implicitDefEqProofs -dsimp (disch := omega) only [go_sem, Nat.reduceEqDiff, ↓reduceIte, Nat.reduceAdd, Nat.reduceMul, Nat.reduceSub, Nat.reduceLT, Nat.reduceLeDiff, Int.reduceLT, Int.reduceLE, Int.reduceEq, Int.reduceNeg, Int.reduceAdd, Int.reduceMul, Int.reduceSub, Int.reduceToNat, reduceCtorEq, dec_t, dec_f, ]
    refine wakes9_ct hp.bm hp.rz hp.ru hp.rf h3 fun H3 _ => ?_
    simp -implicitDefEqProofs -dsimp (disch := omega) only [go_sem, Nat.reduceEqDiff, ↓reduceIte, Nat.reduceAdd, Nat.reduceMul, Nat.reduceSub, Nat.reduceLT, Nat.reduceLeDiff, Int.reduceLT, Int.reduceLE, Int.reduceEq, Int.reduceNeg, Int.reduceAdd, Int.reduceMul, Int.reduceSub, Int.reduceToNat, reduceCtorEq, dec_t, dec_f, ]
  rw [decide_eq_true hsm]
  have h4 := h3.tail
  have r4 := rd_bm h4 (List.mem_cons_self ..) 3 rfl
  simp -implicitDefEqProofs -dsimp (disch := omega) only [go_sem, Nat.reduceEqDiff, ↓reduceIte, Nat.reduceAdd, Nat.reduceMul, Nat.reduceSub, Nat.reduceLT, Nat.reduceLeDiff, Int.reduceLT, Int.reduceLE, Int.reduceEq, Int.reduceNeg, Int.reduceAdd, Int.reduceMul, Int.reduceSub, Int.reduceToNat, reduceCtorEq, dec_t, dec_f, r4]
  refine runsOf_ct hp.bm hp.ru h4 (fun H' h' => hva h' (by simp)) ko.lt ko.w ko.h (fun k => absurd hm k) fun _ ov RL H5 hrl h5 => ?_
  have mw : Wds ow.toNat oh.toNat (pixOf ow.toNat ws) = ws := mm.words
  have w1 : 1 ≤ ow.toNat := mm.w1
  have e1 : 1 ≤ oh.toNat := mm.h1
  have ar : ow.toNat * oh.toNat ≤ 1048576 := mm.area
  have wl : ws.length = oh.toNat * wds ow.toNat := mm.len
  have sz := hm.1
  obtain ⟨wn, rfl⟩ : ∃ n : Nat, ow = n := ⟨_, mm.w⟩
  obtain ⟨hn, rfl⟩ : ∃ n : Nat, oh = n := ⟨_, mm.h⟩
  simp only [Int.toNat_natCast] at mw w1 e1 ar wl hrl
  have wl2 : wn ≤ 1048576 := by have := Nat.le_mul_of_pos_right wn (show 0 < hn by omega); omega
  have hl2 : hn ≤ 1048576 := by have := Nat.le_mul_of_pos_left hn (show 0 < wn by omega); omega
  have gd : 1 ≤ wn ∧ wn ≤ 1048576 ∧ hn * wds wn ≤ 1048576 := ⟨w1, wl2, wds_le ar w1⟩
  generalize hpx : pixOf wn ws = px at *
  obtain ⟨vals, hrd⟩ := rrd_st (ov := ov) (RL := RL) (T := [Cel p [.int .i64 wn, .int .i64 hn, v], Bas H])
  rw [hrl, rowsOf_len] at hrd
  have hrd2 := fun H' h' y (hy : y < hn) => (hrd H' h').2 y _ (rowsOf_at (p := px) (w := wn) hy)
  have hrd1 := fun H' h' => (hrd H' h').1
  have sr : RRd (StR ov RL [Cel p [.int .i64 wn, .int .i64 hn, v], Bas H]) ov (rowsOf px wn hn) := by rw [← hrl]; exact rrd_st
  clear hrd
  obtain ⟨vb, vo, vc, rfl⟩ := (hrd1 H5 h5).at0 (by omega)
  generalize hST : StR _ RL _ = ST at *
  have mp : Cel p [.int .i64 wn, .int .i64 hn, v] ∈ ST := by rw [← hST]; simp [StR]
  have mb : Bas H ∈ ST := by rw [← hST]; simp [StR]
  have r5 := rd_s (h5.celm mp)
  simp -implicitDefEqProofs -dsimp (disch := omega) only [go_sem, Nat.reduceEqDiff, ↓reduceIte, Nat.reduceAdd, Nat.reduceMul, Nat.reduceSub, Nat.reduceLT, Nat.reduceLeDiff, Int.reduceLT, Int.reduceLE, Int.reduceEq, Int.reduceNeg, Int.reduceAdd, Int.reduceMul, Int.reduceSub, Int.reduceToNat, reduceCtorEq, dec_t, dec_f, r5]
  refine runsBack_ct hp.bm hp.ru h5 sr ko.w (by rw [rowsOf_len]; omega) (fun q hq => ?_) (fun k => absurd (rowsOf_ok sz) k) fun _ v' H6 h6 => ?_
  · simp only [rowsOf, List.mem_map] at hq
    obtain ⟨y, _, rfl⟩ := hq
    have := rl_len (fun x => px x y) wn
    omega
  rw [rowsOf_len] at h6 ⊢
  rw [Int.toNat_natCast] at h6
  obtain ⟨va, vn, vc', ve, hv'⟩ : ∃ a n c e, v' = V.sl a n c e := by obtain ⟨vb, kv⟩ := bmV h6; exact ⟨_, _, _, _, kv.val⟩
  have h7 := h6.alloc (l := [.int .i64 wn, .int .i64 hn, v'])
  have r7 := rd_bm h7 (b := p) (l := [.int .i64 wn, .int .i64 hn, v]) (by simp [mp]) 3 rfl
  have r7' := rd_bm h7 (List.mem_cons_self ..) 3 rfl
  have c7 := rd_s (h7.celm (b := p) (l := [.int .i64 wn, .int .i64 hn, v]) (by simp [mp]))
  rw [hv'] at h7 r7 r7' c7 ⊢
  simp -implicitDefEqProofs -dsimp (disch := omega) only [go_sem, Nat.reduceEqDiff, ↓reduceIte, Nat.reduceAdd, Nat.reduceMul, Nat.reduceSub, Nat.reduceLT, Nat.reduceLeDiff, Int.reduceLT, Int.reduceLE, Int.reduceEq, Int.reduceNeg, Int.reduceAdd, Int.reduceMul, Int.reduceSub, Int.reduceToNat, reduceCtorEq, dec_t, dec_f, r7, r7']
  rw [← hv'] at h7 c7 ⊢
  generalize H6.new _ = H7 at *
  generalize H6.next = b5 at *
  refine eqb_ct hp.rz h7 (hva h7 (by simp [mb])) ((h7.ofmem (A := BmA v' wn hn (bkP (rowsOf px wn hn))) (by simp)).bml.own.arr) (by dsimp only; have := ko.len; dsimp only at this; omega) fun H8 h8 _ => ?_
  rw [decide_eq_true (show (wn : Int) = wn ∧ (hn : Int) = hn ∧ ws = Wds wn hn (bkP (rowsOf px wn hn)) from ⟨rfl, rfl, by rw [← mw]; exact Wds_congr fun x y hx hy => (rowsOf_bk hx hy).symm⟩)]
  have h9 := h8.tail.tail
  have c9 := rd_s (h9.celm mp)
  simp -implicitDefEqProofs -dsimp (disch := omega) only [go_sem, Nat.reduceEqDiff, ↓reduceIte, Nat.reduceAdd, Nat.reduceMul, Nat.reduceSub, Nat.reduceLT, Nat.reduceLeDiff, Int.reduceLT, Int.reduceLE, Int.reduceEq, Int.reduceNeg, Int.reduceAdd, Int.reduceMul, Int.reduceSub, Int.reduceToNat, reduceCtorEq, dec_t, dec_f, c9]
  clear h7 r7 r7' c7 h8 h6 hv'
  refine loop_cnt hn (fun y => ⟨[(1, .ptr (some (p, 0))), (3, .sl (some (vb, vo)) hn vc 1), (7, .int .i64 (cnt2 wn px y : Nat)), (8, .int .i64 (y : Nat))], []⟩) (fun y H' => Hs H' ST) (fun y H9 K hy h9 hnx hx hrr => ?_) 0 H8 (by omega) h9
  by_cases he : y < hn
  · obtain ⟨x, hx1, hx2⟩ := hrd2 H9 h9 y he
    have hrx := (hrd1 H9 h9).rd1 he
    rw [hx1] at hrx
    obtain ⟨xa, xc, xe, hxs⟩ := hx2.shape
    rw [hxs] at hrx
    simp -implicitDefEqProofs -dsimp (disch := omega) only [go_sem, Nat.reduceEqDiff, ↓reduceIte, Nat.reduceAdd, Nat.reduceMul, Nat.reduceSub, Nat.reduceLT, Nat.reduceLeDiff, Int.reduceLT, Int.reduceLE, Int.reduceEq, Int.reduceNeg, Int.reduceAdd, Int.reduceMul, Int.reduceSub, Int.reduceToNat, reduceCtorEq, dec_t, dec_f, burinlaw9_RunsRound_l0]
    have hb1 := cnt2_le wn px y
    have hb2 : cnt2 wn px (y + 1) ≤ 1048576 := by have := cnt2_le wn px (y + 1); have := Nat.mul_le_mul_right wn (show y + 1 ≤ hn by omega); rw [Nat.mul_comm hn wn] at this; omega
    have hb3 : cnt2 wn px (y + 1) = cnt2 wn px y + cntF (fun x => px x y) wn := rfl
    have hsum := rl_sum (f := fun x => px x y) wn
    have hok := rl_ok (fun x => px x y) wn
    have hrl := rl_len (fun x => px x y) wn
    generalize hR : rl (fun x => px x y) wn = L at *
    refine loop_cnt L.length (fun i => ⟨[(1, .ptr (some (p, 0))), (3, .sl (some (vb, vo)) hn vc 1), (7, .int .i64 (cnt2 wn px y + rsN (L.take i) : Nat)), (8, .int .i64 (y : Nat)), (9, .int .i64 (i : Nat))], []⟩) (fun i H' => Hs H' ST) (fun i H10 K2 hi h10 hnx2 hxx2 hrr2 => ?_) 0 H9 (by omega) h9
    obtain ⟨x', hx1', hx3⟩ := hrd2 H10 h10 y he
    rw [hx1] at hx1'
    cases hx1'
    have hrx := (hrd1 H10 h10).rd1 he
    rw [hx1] at hrx
    rw [hR] at hx3
    by_cases hil : i < L.length
    · obtain ⟨a, b, hab, ok⟩ := hok L[i] (List.getElem_mem _)
      obtain ⟨xb, xo, xc', hxe⟩ := hx3.at0 (by omega)
      rw [hxe] at hx3 hrx
      have hrr3 := run_rd hx3 hil
      have htk : L.take (i + 1) = L.take i ++ [L[i]] := by rw [List.take_succ_eq_append_getElem hil]
      have hle := rsN_take L (i + 1)
      have hsn : rsN (L.take (i + 1)) = rsN (L.take i) + (b - a) := by rw [htk, rsN_app, hab]; simp [rsN]
      rw [hab] at hrr3
      have h11 := h10.alloc (l := [.int .i64 a, .int .i64 b])
      have r11 := rd_bm h11 (b := p) (l := [.int .i64 wn, .int .i64 hn, v]) (by simp [mp]) 3 rfl
      have c11 := rd_s h11.cel
      have c11' := rd_s (h11.celm (b := p) (l := [.int .i64 wn, .int .i64 hn, v]) (by simp [mp]))
      have o1 := ok.lt
      have o2 := ok.le
      have g1 : ((getV wn hn px ((a : Int) - 1) y : Nat) : Int) = 0 := by
        unfold getV
        by_cases k : a = 0
        · rw [if_neg (by omega)]; rfl
        · rw [if_pos (by omega), show ((a : Int) - 1).toNat = a - 1 by omega, Int.toNat_natCast, ok.st.resolve_left k]; rfl
      have g2 : ((getV wn hn px (b : Int) y : Nat) : Int) = 0 := by
        unfold getV
        by_cases k : b < wn
        · rw [if_pos (by omega), Int.toNat_natCast, Int.toNat_natCast, ok.en k]; rfl
        · rw [if_neg (by omega)]; rfl
      have g3 : ∀ k : Nat, a ≤ k → k < b → ((getV wn hn px (k : Int) y : Nat) : Int) = 1 := fun k k1 k2 => by
        unfold getV
        rw [if_pos (by omega), Int.toNat_natCast, Int.toNat_natCast, ok.on k k1 k2]; rfl
      simp -implicitDefEqProofs -dsimp (disch := omega) only [go_sem, Nat.reduceEqDiff, ↓reduceIte, Nat.reduceAdd, Nat.reduceMul, Nat.reduceSub, Nat.reduceLT, Nat.reduceLeDiff, Int.reduceLT, Int.reduceLE, Int.reduceEq, Int.reduceNeg, Int.reduceAdd, Int.reduceMul, Int.reduceSub, Int.reduceToNat, reduceCtorEq, dec_t, dec_f, burinlaw9_RunsRound_l1, Int.toNat_natCast, Nat.mul_one, hrx, hrr3, r11, c11, c11', w64]
      generalize H10.new _ = H11 at *
      generalize H10.next = b10 at *
      refine getR_ct hp.rz h11 (hva h11 (by simp [mb])) wl ko.lt gd fun H12 h12 _ => ?_
      have r12 := rd_bm h12 (b := p) (l := [.int .i64 wn, .int .i64 hn, v]) (by simp [mp]) 3 rfl
      have c12 := rd_s h12.cel
      rw [hpx, g1]
      simp -implicitDefEqProofs -dsimp (disch := omega) only [go_sem, Nat.reduceEqDiff, ↓reduceIte, Nat.reduceAdd, Nat.reduceMul, Nat.reduceSub, Nat.reduceLT, Nat.reduceLeDiff, Int.reduceLT, Int.reduceLE, Int.reduceEq, Int.reduceNeg, Int.reduceAdd, Int.reduceMul, Int.reduceSub, Int.reduceToNat, reduceCtorEq, dec_t, dec_f, r12, c12]
      refine getR_ct hp.rz h12 (hva h12 (by simp [mb])) wl ko.lt gd fun H13 h13 _ => ?_
      rw [hpx, g2]
      have c13 := rd_s h13.cel
      simp -implicitDefEqProofs -dsimp (disch := omega) only [go_sem, Nat.reduceEqDiff, ↓reduceIte, Nat.reduceAdd, Nat.reduceMul, Nat.reduceSub, Nat.reduceLT, Nat.reduceLeDiff, Int.reduceLT, Int.reduceLE, Int.reduceEq, Int.reduceNeg, Int.reduceAdd, Int.reduceMul, Int.reduceSub, Int.reduceToNat, reduceCtorEq, dec_t, dec_f, c13]
      refine loop_cnt b (fun k => ⟨[(1, .ptr (some (p, 0))), (3, .sl (some (vb, vo)) hn vc 1), (7, .int .i64 (cnt2 wn px y + rsN (L.take i) : Nat)), (8, .int .i64 (y : Nat)), (9, .int .i64 (i : Nat)), (10, .ptr (some (b10, 0))), (11, .int .i64 (k : Nat))], []⟩) (fun k H' => a ≤ k ∧ Hs H' (Cel b10 [.int .i64 a, .int .i64 b] :: ST)) (fun k H14 K3 hk ⟨hka, h14⟩ hnx3 hxx3 hrr3 => ?_) a H13 (by omega) ⟨Nat.le_refl _, h13⟩
      have c14 := rd_s h14.cel
      by_cases hkb : k < b
      · have r14 := rd_bm h14 (b := p) (l := [.int .i64 wn, .int .i64 hn, v]) (by simp [mp]) 3 rfl
        simp -implicitDefEqProofs -dsimp (disch := omega) only [go_sem, Nat.reduceEqDiff, ↓reduceIte, Nat.reduceAdd, Nat.reduceMul, Nat.reduceSub, Nat.reduceLT, Nat.reduceLeDiff, Int.reduceLT, Int.reduceLE, Int.reduceEq, Int.reduceNeg, Int.reduceAdd, Int.reduceMul, Int.reduceSub, Int.reduceToNat, reduceCtorEq, dec_t, dec_f, burinlaw9_RunsRound_l2, c14, r14]
        refine getR_ct hp.rz h14 (hva h14 (by simp [mb])) wl ko.lt gd fun H15 h15 _ => ?_
        rw [hpx, g3 k hka hkb]
        simp -implicitDefEqProofs -dsimp (disch := omega) only [go_sem, Nat.reduceEqDiff, ↓reduceIte, Nat.reduceAdd, Nat.reduceMul, Nat.reduceSub, Nat.reduceLT, Nat.reduceLeDiff, Int.reduceLT, Int.reduceLE, Int.reduceEq, Int.reduceNeg, Int.reduceAdd, Int.reduceMul, Int.reduceSub, Int.reduceToNat, reduceCtorEq, dec_t, dec_f, w64, cadd1]
        exact hnx3 hkb H15 ⟨by omega, h15⟩
      · obtain rfl : k = b := by omega
        simp -implicitDefEqProofs -dsimp (disch := omega) only [go_sem, Nat.reduceEqDiff, ↓reduceIte, Nat.reduceAdd, Nat.reduceMul, Nat.reduceSub, Nat.reduceLT, Nat.reduceLeDiff, Int.reduceLT, Int.reduceLE, Int.reduceEq, Int.reduceNeg, Int.reduceAdd, Int.reduceMul, Int.reduceSub, Int.reduceToNat, reduceCtorEq, dec_t, dec_f, burinlaw9_RunsRound_l2, c14]
        rw [hxx3]
        have en : ((cnt2 wn px y + rsN (L.take i) : Nat) : Int) + (k : Int) - (a : Int) = ((cnt2 wn px y + rsN (L.take (i + 1)) : Nat) : Int) := by omega
        simp -implicitDefEqProofs -dsimp (disch := omega) only [go_sem, Nat.reduceEqDiff, ↓reduceIte, Nat.reduceAdd, Nat.reduceMul, Nat.reduceSub, Nat.reduceLT, Nat.reduceLeDiff, Int.reduceLT, Int.reduceLE, Int.reduceEq, Int.reduceNeg, Int.reduceAdd, Int.reduceMul, Int.reduceSub, Int.reduceToNat, reduceCtorEq, dec_t, dec_f, c14, w64, en, cadd1]
        exact hnx2 hil H14 h14.tail
    · obtain rfl : i = L.length := by omega
      rw [hxs] at hrx
      simp -implicitDefEqProofs -dsimp (disch := omega) only [go_sem, Nat.reduceEqDiff, ↓reduceIte, Nat.reduceAdd, Nat.reduceMul, Nat.reduceSub, Nat.reduceLT, Nat.reduceLeDiff, Int.reduceLT, Int.reduceLE, Int.reduceEq, Int.reduceNeg, Int.reduceAdd, Int.reduceMul, Int.reduceSub, Int.reduceToNat, reduceCtorEq, dec_t, dec_f, burinlaw9_RunsRound_l1, Int.toNat_natCast, Nat.mul_one, hrx]
      rw [hxx2]
      have en : cnt2 wn px y + rsN (L.take L.length) = cnt2 wn px (y + 1) := by rw [List.take_length]; omega
      rw [en]
      simp -implicitDefEqProofs -dsimp (disch := omega) only [go_sem, Nat.reduceEqDiff, ↓reduceIte, Nat.reduceAdd, Nat.reduceMul, Nat.reduceSub, Nat.reduceLT, Nat.reduceLeDiff, Int.reduceLT, Int.reduceLE, Int.reduceEq, Int.reduceNeg, Int.reduceAdd, Int.reduceMul, Int.reduceSub, Int.reduceToNat, reduceCtorEq, dec_t, dec_f, w64, cadd1]
      exact hnx he H10 h10
  · obtain rfl : y = hn := by omega
    simp -implicitDefEqProofs -dsimp (disch := omega) only [go_sem, Nat.reduceEqDiff, ↓reduceIte, Nat.reduceAdd, Nat.reduceMul, Nat.reduceSub, Nat.reduceLT, Nat.reduceLeDiff, Int.reduceLT, Int.reduceLE, Int.reduceEq, Int.reduceNeg, Int.reduceAdd, Int.reduceMul, Int.reduceSub, Int.reduceToNat, reduceCtorEq, dec_t, dec_f, burinlaw9_RunsRound_l0]
    rw [hx]
    have r9 := rd_bm h9 mp 3 rfl
    simp -implicitDefEqProofs -dsimp (disch := omega) only [go_sem, Nat.reduceEqDiff, ↓reduceIte, Nat.reduceAdd, Nat.reduceMul, Nat.reduceSub, Nat.reduceLT, Nat.reduceLeDiff, Int.reduceLT, Int.reduceLE, Int.reduceEq, Int.reduceNeg, Int.reduceAdd, Int.reduceMul, Int.reduceSub, Int.reduceToNat, reduceCtorEq, dec_t, dec_f, r9]
    refine countR_ct hp.rz h9 (hva h9 mb) wl ko.lt ⟨w1, e1, ar⟩ fun H10 h10 _ => ?_
    rw [hpx]
    simp -implicitDefEqProofs -dsimp (disch := omega) only [go_sem, Nat.reduceEqDiff, ↓reduceIte, Nat.reduceAdd, Nat.reduceMul, Nat.reduceSub, Nat.reduceLT, Nat.reduceLeDiff, Int.reduceLT, Int.reduceLE, Int.reduceEq, Int.reduceNeg, Int.reduceAdd, Int.reduceMul, Int.reduceSub, Int.reduceToNat, reduceCtorEq, dec_t, dec_f, ]
    refine wakes9_ct hp.bm hp.rz hp.ru hp.rf h10 fun H11 _ => ?_
    simp -implicitDefEqProofs -dsimp (disch := omega) only [go_sem, Nat.reduceEqDiff, ↓reduceIte, Nat.reduceAdd, Nat.reduceMul, Nat.reduceSub, Nat.reduceLT, Nat.reduceLeDiff, Int.reduceLT, Int.reduceLE, Int.reduceEq, Int.reduceNeg, Int.reduceAdd, Int.reduceMul, Int.reduceSub, Int.reduceToNat, reduceCtorEq, dec_t, dec_f, ]
theorem law_RunsRound {P : Prog} (hp : HasL9r P) (hg : P 125 = some burinlaw9_RunsRound) (H : Heap) (cs : List V) (x : TD.Ty bmTD) (h : Is H bmTD cs x) : Call P 125 [argV bmTD cs] H fun o _ => o = .ret (.bool true) := by
  obtain ⟨o, rfl, k⟩ := is_bm h
  exact runsRound hp hg k
end Go.Ab
