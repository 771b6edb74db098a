/- The reference's bitmaps: may they be, counted. Conditions: none. -/
import Derived.Test.YtdkgdneiilnppaaCq
set_option linter.all false
namespace Go.Ab

def MaI (H : Heap) (b : Nat) (w h : Nat) (v : V) (ws : List Nat) (R : List As) (k : Nat) (fr : Fr) (H' : Heap) : Prop :=
  ∃ y : Nat, k = h - y ∧ y ≤ h ∧ fr = ⟨[(1, .ptr (some (b, 0))), (3, .int .i64 y)], []⟩ ∧ padOk w y ws ∧ Hs H' (Cel b [.int .i64 w, .int .i64 h, v] :: R) ∧ Same (fun b' => b' = b) H H'

section
variable {P : Prog} {H : Heap} {R : List As} {Q : Out → Heap → Prop}

theorem may_ct (hp : HasRz P) {w h : Int} {v : V} {ws : List Nat} (hs : Hs H R) (hv : Arr H v 1 ws.length (u64s ws)) (hl : ∀ n ∈ ws, n < 18446744073709551616) (hw : i64r w) (hh : i64r h)
    (hQ : ∀ b H', (b = true ↔ mayB w h ws) → Hs H' R → Same (fun _ => False) H H' → Q (.ret (.bool b)) H') : Call P 76 [.agg [.int .i64 w, .int .i64 h, v]] H Q := by
  obtain ⟨a, c, e', rfl⟩ := hv.shape
  refine call_of hp.h_burinref0_May rfl ?_
  have h1 := hs.alloc (l := [.int .i64 w, .int .i64 h, .sl a ws.length c e'])
  have hc1 := h1.cel
  have hn1 : H.next < (H.new (.cells [.int .i64 w, .int .i64 h, .sl a ws.length c e'] true)).next := h1.celt
  have s1 : Same (fun _ => False) H (H.new (.cells [.int .i64 w, .int .i64 h, .sl a ws.length c e'] true)) := Same.new _ _ _
  simp -implicitDefEqProofs -dsimp (disch := omega) only [go_sem, Nat.reduceEqDiff, ↓reduceIte, Nat.reduceAdd, Nat.reduceMul, Nat.reduceSub, Nat.reduceLT, Nat.reduceLeDiff, Int.reduceLT, Int.reduceLE, Int.reduceEq, Int.reduceNeg, Int.reduceAdd, Int.reduceMul, Int.reduceSub, Int.reduceToNat, reduceCtorEq, dec_t, dec_f, ]
  generalize H.new (.cells [.int .i64 w, .int .i64 h, .sl a ws.length c e'] true) = H1 at h1 hc1 s1 hn1
  generalize hb : H.next = b at h1 hc1 hn1
  refine sizeR_ct hp hw hh ?_
  by_cases k : sizeOk w h
  · rw [decide_eq_true k]
    have hle := sizeOk_le k
    obtain ⟨wn, rfl⟩ : ∃ wn : Nat, w = wn := ⟨w.toNat, by have := k.1; omega⟩
    obtain ⟨hn, rfl⟩ : ∃ hn : Nat, h = hn := ⟨h.toNat, by have := k.2.1; omega⟩
    have k1 : 1 ≤ wn := by have := k.1; omega
    have k2 : 1 ≤ hn := by have := k.2.1; omega
    have k3 : wn * hn ≤ 1048576 := by have := k.2.2; rw [← Int.natCast_mul] at this; omega
    have kw := wds_le k3 k1
    have em : (hn : Int) * ((wds wn : Nat) : Int) = ((hn * wds wn : Nat) : Int) := (Int.natCast_mul _ _).symm
    have hmay : mayB wn hn ws ↔ ws.length = hn * wds wn ∧ padOk wn hn ws := ⟨fun h => h.2, fun h => ⟨k, h⟩⟩
    have e6 : (wn : Int) % 64 = ((wn % 64 : Nat) : Int) := rfl
    have hwl : wds wn ≤ 1048576 := by unfold wds; omega
    by_cases hlen : ws.length = hn * wds wn
    · have hmay' : mayB wn hn ws ↔ padOk wn hn ws := ⟨fun h => (hmay.1 h).2, fun h => hmay.2 ⟨hlen, h⟩⟩
      simp -implicitDefEqProofs -dsimp (disch := omega) only [go_sem, Nat.reduceEqDiff, ↓reduceIte, Nat.reduceAdd, Nat.reduceMul, Nat.reduceSub, Nat.reduceLT, Nat.reduceLeDiff, Int.reduceLT, Int.reduceLE, Int.reduceEq, Int.reduceNeg, Int.reduceAdd, Int.reduceMul, Int.reduceSub, Int.reduceToNat, reduceCtorEq, dec_t, dec_f, rd_s hc1, d_gre]
      refine words_ct hp (by omega) ?_
      simp -implicitDefEqProofs -dsimp (disch := omega) only [go_sem, Nat.reduceEqDiff, ↓reduceIte, Nat.reduceAdd, Nat.reduceMul, Nat.reduceSub, Nat.reduceLT, Nat.reduceLeDiff, Int.reduceLT, Int.reduceLE, Int.reduceEq, Int.reduceNeg, Int.reduceAdd, Int.reduceMul, Int.reduceSub, Int.reduceToNat, reduceCtorEq, dec_t, dec_f, ]
      refine aft_intro (by simp [rechecks, recheck, fresh, Fr.get, look, step, opd, rd_s hc1]) ?_
      by_cases hz : wn % 64 = 0
      · simp -implicitDefEqProofs -dsimp (disch := omega) only [go_sem, Nat.reduceEqDiff, ↓reduceIte, Nat.reduceAdd, Nat.reduceMul, Nat.reduceSub, Nat.reduceLT, Nat.reduceLeDiff, Int.reduceLT, Int.reduceLE, Int.reduceEq, Int.reduceNeg, Int.reduceAdd, Int.reduceMul, Int.reduceSub, Int.reduceToNat, reduceCtorEq, dec_t, dec_f, w64, em, rd_s hc1, tmodN, e6, hz]
        refine hQ true H1 ⟨fun _ => hmay'.2 fun y hy k hk hx => ?_, fun _ => rfl⟩ h1.tail s1
        unfold wds at hx; omega
      · simp -implicitDefEqProofs -dsimp (disch := omega) only [go_sem, Nat.reduceEqDiff, ↓reduceIte, Nat.reduceAdd, Nat.reduceMul, Nat.reduceSub, Nat.reduceLT, Nat.reduceLeDiff, Int.reduceLT, Int.reduceLE, Int.reduceEq, Int.reduceNeg, Int.reduceAdd, Int.reduceMul, Int.reduceSub, Int.reduceToNat, reduceCtorEq, dec_t, dec_f, w64, em, rd_s hc1, tmodN, e6]
        refine loop_inv (MaI H1 b wn hn _ ws R) ?_ hn _ _ ⟨0, by omega, by omega, rfl, fun y hy => by omega, h1, Same.refl _ _⟩
        rintro k fr H2 ⟨y, hk, hy, rfl, hpad, h2, s2⟩
        generalize hK : rnd (MaI H1 b wn hn _ ws R) k = K
        have hc2 := h2.cel
        have s12 : Same (fun _ => False) H H2 := s1.trans s2 fun x hx e => by have : x = b := e; omega
        by_cases hyh : y < hn
        · have hwd : 1 ≤ wds wn := by unfold wds; omega
          have hidx := row_lt hyh hwd
          obtain ⟨b3, o3, c3, e3⟩ := hv.at0 (by omega)
          cases e3
          have hrd : rd H2 none b3 (o3 + (y * wds wn + (wds wn - 1))) = some (.int .u64 ((ws.getD (y * wds wn + (wds wn - 1)) 0 : Nat) : Int)) := by
            rw [(hv.same s12 fun _ _ h => h).rd1 (by omega)]
            simp only [u64s, List.getElem?_map, List.getD_eq_getElem?_getD, List.getElem?_eq_getElem (show y * wds wn + (wds wn - 1) < ws.length by omega)]; rfl
          have hlt : ws.getD (y * wds wn + (wds wn - 1)) 0 < 18446744073709551616 := by
            rw [List.getD_eq_getElem?_getD, List.getElem?_eq_getElem (show y * wds wn + (wds wn - 1) < ws.length by omega)]; exact hl _ (List.getElem_mem _)
          have hrow : (∀ k, k < 64 → wn ≤ 64 * (wds wn - 1) + k → wb (ws.getD (y * wds wn + (wds wn - 1)) 0) k = false) ↔ ws.getD (y * wds wn + (wds wn - 1)) 0 * 2 ^ (wn % 64) % 18446744073709551616 = 0 := by
            constructor
            · intro h
              refine wb_ext (modw_lt _) (by omega) fun k hk => ?_
              rw [wb_shl hk, wb_zero]
              by_cases hx : k + wn % 64 < 64
              · rw [h _ hx (by unfold wds; omega)]; simp
              · rw [decide_eq_false hx]; rfl
            · intro h k hk hx
              have h2 := wb_shl (n := ws.getD (y * wds wn + (wds wn - 1)) 0) (s := wn % 64) (k := k - wn % 64) (by omega)
              rw [h, wb_zero, decide_eq_true (by unfold wds at hx; omega), show k - wn % 64 + wn % 64 = k by unfold wds at hx; omega] at h2
              simpa using h2.symm
          generalize hwv : ws.getD (y * wds wn + (wds wn - 1)) 0 = wv at hrd hlt hrow
          have ey : (((y : Int)) + 1) * ((wds wn : Nat) : Int) = ((y * wds wn + wds wn : Nat) : Int) := by rw [Int.add_mul, Int.one_mul, Int.natCast_add, Int.natCast_mul]
          have ey' : ((y + 1 : Nat) : Int) * ((wds wn : Nat) : Int) = ((y * wds wn + wds wn : Nat) : Int) := ey
          have ey2 : ((y * wds wn + wds wn : Nat) : Int) - 1 = ((y * wds wn + (wds wn - 1) : Nat) : Int) := by omega
          simp -implicitDefEqProofs -dsimp (disch := omega) only [go_sem, Nat.reduceEqDiff, ↓reduceIte, Nat.reduceAdd, Nat.reduceMul, Nat.reduceSub, Nat.reduceLT, Nat.reduceLeDiff, Int.reduceLT, Int.reduceLE, Int.reduceEq, Int.reduceNeg, Int.reduceAdd, Int.reduceMul, Int.reduceSub, Int.reduceToNat, reduceCtorEq, dec_t, dec_f, burinref0_May_l0, rd_s hc2, w64, tmodN, e6, wu64]
          refine words_ct hp (by omega) ?_
          simp -implicitDefEqProofs -dsimp (disch := omega) only [go_sem, Nat.reduceEqDiff, ↓reduceIte, Nat.reduceAdd, Nat.reduceMul, Nat.reduceSub, Nat.reduceLT, Nat.reduceLeDiff, Int.reduceLT, Int.reduceLE, Int.reduceEq, Int.reduceNeg, Int.reduceAdd, Int.reduceMul, Int.reduceSub, Int.reduceToNat, reduceCtorEq, dec_t, dec_f, ]
          refine aft_intro (by simp [rechecks, recheck, fresh, Fr.get, look, step, opd, rd_s hc2]) ?_
          by_cases hz2 : wv * 2 ^ (wn % 64) % 18446744073709551616 = 0
          · simp -implicitDefEqProofs -dsimp (disch := omega) only [go_sem, Nat.reduceEqDiff, ↓reduceIte, Nat.reduceAdd, Nat.reduceMul, Nat.reduceSub, Nat.reduceLT, Nat.reduceLeDiff, Int.reduceLT, Int.reduceLE, Int.reduceEq, Int.reduceNeg, Int.reduceAdd, Int.reduceMul, Int.reduceSub, Int.reduceToNat, reduceCtorEq, dec_t, dec_f, ey, ey', ey2, w64, Int.toNat_natCast, Nat.mul_one, hrd, shlw, hz2, cadd1, show ((0 : Nat) : Int) = 0 from rfl]
            subst hK
            refine rnd_n (hn - (y + 1)) (by omega) ⟨y + 1, rfl, by omega, rfl, fun y' hy' => ?_, h2, s2⟩
            by_cases e : y' = y
            · subst e; rw [hwv]; exact hrow.2 hz2
            · exact hpad y' (by omega)
          · have hz' : ¬ ((wv * 2 ^ (wn % 64) % 18446744073709551616 : Nat) : Int) = 0 := by omega
            simp -implicitDefEqProofs -dsimp (disch := omega) only [go_sem, Nat.reduceEqDiff, ↓reduceIte, Nat.reduceAdd, Nat.reduceMul, Nat.reduceSub, Nat.reduceLT, Nat.reduceLeDiff, Int.reduceLT, Int.reduceLE, Int.reduceEq, Int.reduceNeg, Int.reduceAdd, Int.reduceMul, Int.reduceSub, Int.reduceToNat, reduceCtorEq, dec_t, dec_f, ey, ey2, w64, Int.toNat_natCast, Nat.mul_one, hrd, shlw, hz']
            subst hK
            simp -implicitDefEqProofs -dsimp (disch := omega) only [go_sem, Nat.reduceEqDiff, ↓reduceIte, Nat.reduceAdd, Nat.reduceMul, Nat.reduceSub, Nat.reduceLT, Nat.reduceLeDiff, Int.reduceLT, Int.reduceLE, Int.reduceEq, Int.reduceNeg, Int.reduceAdd, Int.reduceMul, Int.reduceSub, Int.reduceToNat, reduceCtorEq, dec_t, dec_f, ]
            exact hQ false H2 ⟨(fun h => by cases h), fun h => absurd (hrow.1 (by have := hmay'.1 h y hyh; rw [hwv] at this; exact this)) hz2⟩ h2.tail s12
        · obtain rfl : y = hn := by omega
          simp -implicitDefEqProofs -dsimp (disch := omega) only [go_sem, Nat.reduceEqDiff, ↓reduceIte, Nat.reduceAdd, Nat.reduceMul, Nat.reduceSub, Nat.reduceLT, Nat.reduceLeDiff, Int.reduceLT, Int.reduceLE, Int.reduceEq, Int.reduceNeg, Int.reduceAdd, Int.reduceMul, Int.reduceSub, Int.reduceToNat, reduceCtorEq, dec_t, dec_f, burinref0_May_l0, rd_s hc2]
          subst hK
          simp -implicitDefEqProofs -dsimp (disch := omega) only [go_sem, Nat.reduceEqDiff, ↓reduceIte, Nat.reduceAdd, Nat.reduceMul, Nat.reduceSub, Nat.reduceLT, Nat.reduceLeDiff, Int.reduceLT, Int.reduceLE, Int.reduceEq, Int.reduceNeg, Int.reduceAdd, Int.reduceMul, Int.reduceSub, Int.reduceToNat, reduceCtorEq, dec_t, dec_f, ]
          exact hQ true H2 ⟨fun _ => hmay'.2 hpad, fun _ => rfl⟩ h2.tail s12
    · have hne : ¬ ((ws.length : Nat) : Int) = ((hn * wds wn : Nat) : Int) := by omega
      simp -implicitDefEqProofs -dsimp (disch := omega) only [go_sem, Nat.reduceEqDiff, ↓reduceIte, Nat.reduceAdd, Nat.reduceMul, Nat.reduceSub, Nat.reduceLT, Nat.reduceLeDiff, Int.reduceLT, Int.reduceLE, Int.reduceEq, Int.reduceNeg, Int.reduceAdd, Int.reduceMul, Int.reduceSub, Int.reduceToNat, reduceCtorEq, dec_t, dec_f, rd_s hc1, d_gre]
      refine words_ct hp (by omega) ?_
      simp -implicitDefEqProofs -dsimp (disch := omega) only [go_sem, Nat.reduceEqDiff, ↓reduceIte, Nat.reduceAdd, Nat.reduceMul, Nat.reduceSub, Nat.reduceLT, Nat.reduceLeDiff, Int.reduceLT, Int.reduceLE, Int.reduceEq, Int.reduceNeg, Int.reduceAdd, Int.reduceMul, Int.reduceSub, Int.reduceToNat, reduceCtorEq, dec_t, dec_f, ]
      refine aft_intro (by simp [rechecks, recheck, fresh, Fr.get, look, step, opd, rd_s hc1]) ?_
      simp -implicitDefEqProofs -dsimp (disch := omega) only [go_sem, Nat.reduceEqDiff, ↓reduceIte, Nat.reduceAdd, Nat.reduceMul, Nat.reduceSub, Nat.reduceLT, Nat.reduceLeDiff, Int.reduceLT, Int.reduceLE, Int.reduceEq, Int.reduceNeg, Int.reduceAdd, Int.reduceMul, Int.reduceSub, Int.reduceToNat, reduceCtorEq, dec_t, dec_f, w64, em, hne]
      exact hQ false H1 ⟨(fun h => by cases h), fun h => absurd (hmay.1 h).1 hlen⟩ h1.tail s1
  · rw [decide_eq_false k]
    have hno : ¬ mayB w h ws := fun e => k e.1
    simp -implicitDefEqProofs -dsimp (disch := omega) only [go_sem, Nat.reduceEqDiff, ↓reduceIte, Nat.reduceAdd, Nat.reduceMul, Nat.reduceSub, Nat.reduceLT, Nat.reduceLeDiff, Int.reduceLT, Int.reduceLE, Int.reduceEq, Int.reduceNeg, Int.reduceAdd, Int.reduceMul, Int.reduceSub, Int.reduceToNat, reduceCtorEq, dec_t, dec_f, d_gre]
    exact hQ false H1 ⟨(fun h => by cases h), fun h => absurd h.1 k⟩ h1.tail s1

theorem cnt2_le (w : Nat) (p : Nat → Nat → Bool) (h : Nat) : cnt2 w p h ≤ h * w := sumN_le fun _ _ => cntF_le _ _
def CoI (H : Heap) (b : Nat) (w h : Nat) (v : V) (ws : List Nat) (R : List As) (k : Nat) (fr : Fr) (H' : Heap) : Prop :=
  ∃ y : Nat, k = h - y ∧ y ≤ h ∧ fr = ⟨[(1, .ptr (some (b, 0))), (3, .int .i64 (cnt2 w (pixOf w ws) y : Nat)), (4, .int .i64 y)], []⟩ ∧ Hs H' (Cel b [.int .i64 w, .int .i64 h, v] :: R) ∧ Same (fun b' => b' = b) H H'
def CoJ (H : Heap) (b : Nat) (w h : Nat) (v : V) (ws : List Nat) (R : List As) (y : Nat) (k : Nat) (fr : Fr) (H' : Heap) : Prop :=
  ∃ x : Nat, k = w - x ∧ x ≤ w ∧ fr = ⟨[(1, .ptr (some (b, 0))), (3, .int .i64 (cnt2 w (pixOf w ws) y + cntF (fun i => pixOf w ws i y) x : Nat)), (4, .int .i64 y), (5, .int .i64 x)], []⟩ ∧ Hs H' (Cel b [.int .i64 w, .int .i64 h, v] :: R) ∧ Same (fun b' => b' = b) H H'
theorem countR_ct (hp : HasRz P) {w h : Nat} {v : V} {ws : List Nat} (hs : Hs H R) (hv : Arr H v 1 ws.length (u64s ws)) (hl : ws.length = h * wds w) (hb : ∀ n ∈ ws, n < 18446744073709551616) (hd : 1 ≤ w ∧ 1 ≤ h ∧ w * h ≤ 1048576)
    (hQ : ∀ H', Hs H' R → Same (fun _ => False) H H' → Q (.ret (.int .i64 (cnt2 w (pixOf w ws) h : Nat))) H') : Call P 81 [.agg [.int .i64 w, .int .i64 h, v]] H Q := by
  obtain ⟨z1, z2, z3⟩ := hd
  have z4 : w ≤ 1048576 := by have := Nat.le_mul_of_pos_right w (show 0 < h by omega); omega
  have z5 : h ≤ 1048576 := by have := Nat.le_mul_of_pos_left h (show 0 < w by omega); omega
  have kw := wds_le z3 z1
  refine call_of hp.h_burinref0_Count rfl ?_
  have h1 := hs.alloc (l := [.int .i64 w, .int .i64 h, v])
  have hn1 : H.next < (H.new (.cells [.int .i64 w, .int .i64 h, v] true)).next := h1.celt
  have s1 : Same (fun _ => False) H (H.new (.cells [.int .i64 w, .int .i64 h, v] true)) := Same.new _ _ _
  simp -implicitDefEqProofs -dsimp (disch := omega) only [go_sem, Nat.reduceEqDiff, ↓reduceIte, Nat.reduceAdd, Nat.reduceMul, Nat.reduceSub, Nat.reduceLT, Nat.reduceLeDiff, Int.reduceLT, Int.reduceLE, Int.reduceEq, Int.reduceNeg, Int.reduceAdd, Int.reduceMul, Int.reduceSub, Int.reduceToNat, reduceCtorEq, dec_t, dec_f, ]
  generalize H.new (.cells [.int .i64 w, .int .i64 h, v] true) = H1 at h1 s1 hn1 ⊢
  generalize hbb : H.next = b at h1 hn1 ⊢
  have sT : ∀ {H'}, Same (fun b' => b' = b) H1 H' → Same (fun _ => False) H H' := fun s2 => s1.trans s2 fun x hx e => by have : x = b := e; omega
  refine loop_inv (CoI H1 b w h v ws R) ?_ h _ _ ⟨0, by omega, by omega, rfl, h1, Same.refl _ _⟩
  rintro k fr H2 ⟨y, hk, hy, rfl, h2, s2⟩
  generalize hK : rnd (CoI H1 b w h v ws R) k = K
  have hc2 := h2.cel
  by_cases hyh : y < h
  · simp -implicitDefEqProofs -dsimp (disch := omega) only [go_sem, Nat.reduceEqDiff, ↓reduceIte, Nat.reduceAdd, Nat.reduceMul, Nat.reduceSub, Nat.reduceLT, Nat.reduceLeDiff, Int.reduceLT, Int.reduceLE, Int.reduceEq, Int.reduceNeg, Int.reduceAdd, Int.reduceMul, Int.reduceSub, Int.reduceToNat, reduceCtorEq, dec_t, dec_f, burinref0_Count_l0, rd_s hc2]
    refine loop_inv (CoJ H1 b w h v ws R y) ?_ w _ _ ⟨0, by omega, by omega, rfl, h2, s2⟩
    rintro k2 fr2 H3 ⟨x, hk2, hx, rfl, h3, s3⟩
    generalize hK2 : rnd (CoJ H1 b w h v ws R y) k2 = K2
    have hc3 := h3.cel
    by_cases hxw : x < w
    · simp -implicitDefEqProofs -dsimp (disch := omega) only [go_sem, Nat.reduceEqDiff, ↓reduceIte, Nat.reduceAdd, Nat.reduceMul, Nat.reduceSub, Nat.reduceLT, Nat.reduceLeDiff, Int.reduceLT, Int.reduceLE, Int.reduceEq, Int.reduceNeg, Int.reduceAdd, Int.reduceMul, Int.reduceSub, Int.reduceToNat, reduceCtorEq, dec_t, dec_f, burinref0_Count_l1, rd_s hc3, rd_m hc3]
      refine getR_ct hp h3 (hv.same (sT s3) fun _ _ h => h) hl hb ⟨z1, z4, kw⟩ fun H4 h4 s4 => ?_
      have hcc := cnt2_le w (pixOf w ws) y
      have hc1 := cntF_le (fun i => pixOf w ws i y) x
      have hyw : y * w ≤ h * w := Nat.mul_le_mul_right _ (by omega)
      rw [Nat.mul_comm h w] at hyw
      have hv2 : getV w h (pixOf w ws) x y = (pixOf w ws x y).toNat := by unfold getV; rw [if_pos (by omega), Int.toNat_natCast, Int.toNat_natCast]
      rw [hv2]
      have hbl := Bool.toNat_le (pixOf w ws x y)
      have e5 : ((cnt2 w (pixOf w ws) y + cntF (fun i => pixOf w ws i y) x : Nat) : Int) + (((pixOf w ws x y).toNat : Nat) : Int) = ((cnt2 w (pixOf w ws) y + cntF (fun i => pixOf w ws i y) (x + 1) : Nat) : Int) := by
        rw [cntF]; omega
      simp -implicitDefEqProofs -dsimp (disch := omega) only [go_sem, Nat.reduceEqDiff, ↓reduceIte, Nat.reduceAdd, Nat.reduceMul, Nat.reduceSub, Nat.reduceLT, Nat.reduceLeDiff, Int.reduceLT, Int.reduceLE, Int.reduceEq, Int.reduceNeg, Int.reduceAdd, Int.reduceMul, Int.reduceSub, Int.reduceToNat, reduceCtorEq, dec_t, dec_f, e5, w64, cadd1]
      subst hK2
      exact rnd_n (w - (x + 1)) (by omega) ⟨x + 1, rfl, by omega, rfl, h4, s3.trans s4 fun _ _ h => h.elim⟩
    · obtain rfl : x = w := by omega
      simp -implicitDefEqProofs -dsimp (disch := omega) only [go_sem, Nat.reduceEqDiff, ↓reduceIte, Nat.reduceAdd, Nat.reduceMul, Nat.reduceSub, Nat.reduceLT, Nat.reduceLeDiff, Int.reduceLT, Int.reduceLE, Int.reduceEq, Int.reduceNeg, Int.reduceAdd, Int.reduceMul, Int.reduceSub, Int.reduceToNat, reduceCtorEq, dec_t, dec_f, burinref0_Count_l1, rd_s hc3]
      subst hK2
      simp -implicitDefEqProofs -dsimp (disch := omega) only [go_sem, Nat.reduceEqDiff, ↓reduceIte, Nat.reduceAdd, Nat.reduceMul, Nat.reduceSub, Nat.reduceLT, Nat.reduceLeDiff, Int.reduceLT, Int.reduceLE, Int.reduceEq, Int.reduceNeg, Int.reduceAdd, Int.reduceMul, Int.reduceSub, Int.reduceToNat, reduceCtorEq, dec_t, dec_f, w64, cadd1]
      subst hK
      exact rnd_n (h - (y + 1)) (by omega) ⟨y + 1, rfl, by omega, rfl, h3, s3⟩
  · obtain rfl : y = h := by omega
    simp -implicitDefEqProofs -dsimp (disch := omega) only [go_sem, Nat.reduceEqDiff, ↓reduceIte, Nat.reduceAdd, Nat.reduceMul, Nat.reduceSub, Nat.reduceLT, Nat.reduceLeDiff, Int.reduceLT, Int.reduceLE, Int.reduceEq, Int.reduceNeg, Int.reduceAdd, Int.reduceMul, Int.reduceSub, Int.reduceToNat, reduceCtorEq, dec_t, dec_f, burinref0_Count_l0, rd_s hc2]
    subst hK
    simp -implicitDefEqProofs -dsimp (disch := omega) only [go_sem, Nat.reduceEqDiff, ↓reduceIte, Nat.reduceAdd, Nat.reduceMul, Nat.reduceSub, Nat.reduceLT, Nat.reduceLeDiff, Int.reduceLT, Int.reduceLE, Int.reduceEq, Int.reduceNeg, Int.reduceAdd, Int.reduceMul, Int.reduceSub, Int.reduceToNat, reduceCtorEq, dec_t, dec_f, ]
    exact hQ H2 h2.tail (sT s2)
theorem cnt2_congr {w h : Nat} {p q : Nat → Nat → Bool} (e : ∀ x y, x < w → y < h → p x y = q x y) : cnt2 w p h = cnt2 w q h := sumN_congr fun y hy => cntF_congr fun x hx => e x y hx hy
theorem countB_ct (hp : HasRz P) {v : V} {w h : Nat} {p : Nat → Nat → Bool} (hs : Hs H (BmA v w h p :: R))
    (hQ : ∀ H', Hs H' (BmA v w h p :: R) → Same (fun _ => False) H H' → Q (.ret (.int .i64 (cnt2 w p h : Nat))) H') : Call P 81 [.agg [.int .i64 w, .int .i64 h, v]] H Q := by
  obtain ⟨z1, z2, z3, z4, z5⟩ := bmSz hs
  obtain ⟨b, k⟩ := bmV hs
  refine countR_ct hp hs k.arr (Wds_length _ _ _) (Wds_lt _ _ _) ⟨z1, z2, z3⟩ fun H' h' s' => ?_
  rw [cnt2_congr (q := p) fun x y hx hy => pixOf_Wds p hx hy]
  exact hQ H' h' s'
end
end Go.Ab
