/- The reference's Of. Conditions: none. -/
import Derived.Test.YtdkgdneiilnppaaRd
import Derived.Test.YtdkgdneiilnppaaC5
import Derived.Test.YtdkgdneiilnppaaPRf9
set_option linter.all false
namespace Go.Ab
theorem rl_ne {f : Nat → Bool} {x : Nat} (h : f x = true) : rl f (x + 1) ≠ [] := by
  rw [rl, h]
  simp only [if_true]
  split <;> simp
theorem rcells_over {l : List (Int × Int)} {t : Int} (h : l ≠ []) : over (rcells l) ((l.length - 1) * 2 + 1) [.int .i64 t] = rcells (l.dropLast ++ [((l.getLastD (0, 0)).1, t)]) := by
  have e : l = l.dropLast ++ [l.getLast h] := (List.dropLast_concat_getLast h).symm
  generalize hd : l.dropLast = d at e
  generalize hg : l.getLast h = g at e
  subst e
  rw [rcells_snoc, rcells_snoc]
  have h1 : (d ++ [g]).length - 1 = d.length := by simp
  have h2 := over_at (rcells d ++ [.int .i64 g.1]) [] (.int .i64 g.2) (.int .i64 t)
  rw [List.length_append, rcells_len] at h2
  rw [h1]
  simp only [List.append_assoc, List.cons_append, List.nil_append, List.length_cons, List.length_nil, Nat.zero_add] at h2 ⊢
  rw [h2]
  simp
section
variable {P : Prog} {H : Heap} {R : List As} {Q : Out → Heap → Prop}
def RfS.fr (b : Nat) (x : RoS) : Fr := ⟨[(1, .ptr (some (b, 0))), (4, x.ov), (5, .int .i64 (x.y : Nat))], []⟩
set_option maxHeartbeats 1000000 in
theorem refOf_ct (hz : HasRz P) (hp : HasRf9 P) {w h : Int} {v : V} {ws : List Nat} (hs : Hs H R) (hv : ∀ H', Hs H' R → Arr H' v 1 ws.length (u64s ws)) (hl : ∀ n ∈ ws, n < 18446744073709551616) (hw : i64r w) (hh : i64r h)
    (hQ1 : ¬ mayB w h ws → ∀ H', Hs H' R → Q (.ret (.tup [.sl none 0 0 0, .int .i64 80])) H')
    (hQ2 : mayB w h ws → ∀ ov RL H', RL.map RowR.l = rowsOf (pixOf w.toNat ws) w.toNat h.toNat → Hs H' (StR ov RL R) → Q (.ret (.tup [ov, .int .i64 0])) H') : Call P 118 [.agg [.int .i64 w, .int .i64 h, v]] H Q := by
  refine call_of hp.h_burinref9_Of rfl ?_
  have h1 := hs.alloc (l := [.int .i64 w, .int .i64 h, v])
  have r1 := rd_bm h1 (List.mem_cons_self ..) 3 rfl
  simp -implicitDefEqProofs -dsimp (disch := omega) only [go_sem, Nat.reduceEqDiff, ↓reduceIte, Nat.reduceAdd, Nat.reduceMul, Nat.reduceSub, Nat.reduceLT, Nat.reduceLeDiff, Int.reduceLT, Int.reduceLE, Int.reduceEq, Int.reduceNeg, Int.reduceAdd, Int.reduceMul, Int.reduceSub, Int.reduceToNat, reduceCtorEq, dec_t, dec_f, r1]
  generalize H.new _ = H1 at *
  generalize H.next = b at *
  refine may_ct hz h1 (hv H1 h1.tail) hl hw hh fun ck H2 hck h2 _ => ?_
  by_cases m : mayB w h ws
  rotate_left
  · obtain rfl : ck = false := by
      cases ck with
      | false => rfl
      | true => exact absurd (hck.1 rfl) m
    simp -implicitDefEqProofs -dsimp (disch := omega) only [go_sem, Nat.reduceEqDiff, ↓reduceIte, Nat.reduceAdd, Nat.reduceMul, Nat.reduceSub, Nat.reduceLT, Nat.reduceLeDiff, Int.reduceLT, Int.reduceLE, Int.reduceEq, Int.reduceNeg, Int.reduceAdd, Int.reduceMul, Int.reduceSub, Int.reduceToNat, reduceCtorEq, dec_t, dec_f, ]
    exact hQ1 m H2 h2.tail
  obtain rfl : ck = true := hck.2 m
  have hQ2 := hQ2 m
  obtain ⟨⟨m1, m2, m3⟩, m4, m5⟩ := m
  have hle := sizeOk_le ⟨m1, m2, m3⟩
  obtain ⟨wn, rfl⟩ : ∃ k : Nat, w = k := ⟨w.toNat, by omega⟩
  obtain ⟨hn, rfl⟩ : ∃ k : Nat, h = k := ⟨h.toNat, by omega⟩
  rw [Int.toNat_natCast, Int.toNat_natCast] at m4 hQ2
  have m3 : wn * hn ≤ 1048576 := by rw [← Int.natCast_mul] at m3; omega
  have sr : Src (Cel b [.int .i64 wn, .int .i64 hn, v] :: R) v wn hn (pixOf wn ws) := ⟨by omega, by omega, m3, ws, fun H' h' => hv H' h'.tail, m4, hl, fun _ _ _ _ => rfl⟩
  simp -implicitDefEqProofs -dsimp (disch := omega) only [go_sem, Nat.reduceEqDiff, ↓reduceIte, Nat.reduceAdd, Nat.reduceMul, Nat.reduceSub, Nat.reduceLT, Nat.reduceLeDiff, Int.reduceLT, Int.reduceLE, Int.reduceEq, Int.reduceNeg, Int.reduceAdd, Int.reduceMul, Int.reduceSub, Int.reduceToNat, reduceCtorEq, dec_t, dec_f, ]
  have h3 : Hs H2 (StR (.sl none 0 0 0) [] (Cel b [.int .i64 wn, .int .i64 hn, v] :: R)) := h2.lst (Same.refl _ _) (own_nil _ 1) fun _ h => h.elim
  refine loop_dec (σ := RoS) (fun x => hn - x.y) (RfS.fr b) (fun x H => x.y ≤ hn ∧ x.RL.map RowR.l = rowsOf (pixOf wn ws) wn x.y ∧ Hs H (StR x.ov x.RL (Cel b [.int .i64 wn, .int .i64 hn, v] :: R))) (fun x H3 K ⟨hy, hrl, h4⟩ hnn hx hrr => ?_) ⟨0, .sl none 0 0 0, []⟩ H2 ⟨by simp, rfl, h3⟩
  obtain ⟨y, ov, RL⟩ := x
  dsimp only at hy hrl h4 hnn
  have hRL : RL.length = y := by have := congrArg List.length hrl; simpa [rowsOf_len] using this
  have htl : ∀ {H'} {A : List As}, Hs H' (A ++ StR ov RL (Cel b [.int .i64 wn, .int .i64 hn, v] :: R)) → Hs H' (Cel b [.int .i64 wn, .int .i64 hn, v] :: R) := fun {H'} {A} h => (h.drops.tail).drops
  have c1 := rd_s (htl (A := []) h4).cel
  by_cases he : y < hn
  · simp -implicitDefEqProofs -dsimp (disch := omega) only [go_sem, Nat.reduceEqDiff, ↓reduceIte, Nat.reduceAdd, Nat.reduceMul, Nat.reduceSub, Nat.reduceLT, Nat.reduceLeDiff, Int.reduceLT, Int.reduceLE, Int.reduceEq, Int.reduceNeg, Int.reduceAdd, Int.reduceMul, Int.reduceSub, Int.reduceToNat, reduceCtorEq, dec_t, dec_f, burinref9_Of_l0, RfS.fr, c1]
    have h5 : Hs H3 (Lst (.sl none 0 0 0) 2 0 (rcells []) :: StR ov RL (Cel b [.int .i64 wn, .int .i64 hn, v] :: R)) := h4.lst (Same.refl _ _) (own_nil _ 2) fun _ h => h.elim
    obtain ⟨f, hf⟩ : ∃ f : Nat → Bool, (fun z => pixOf wn ws z y) = f := ⟨_, rfl⟩
    have hf' : ∀ z, pixOf wn ws z y = f z := fun z => by rw [← hf]
    refine loop_dec (σ := Nat × V) (fun x => wn - x.1) (fun x => ⟨[(1, .ptr (some (b, 0))), (4, ov), (5, .int .i64 y), (6, x.2), (7, .int .i64 (x.1 : Nat))], []⟩)
      (fun x H => x.1 ≤ wn ∧ Hs H (Lst x.2 2 (rl f x.1).length (rcells (rl f x.1)) :: StR ov RL (Cel b [.int .i64 wn, .int .i64 hn, v] :: R)))
      (fun x H4 K2 ⟨hx1, h6⟩ hn2 hxx2 hrr2 => ?_) (0, .sl none 0 0 0) H3 ⟨by simp, h5⟩
    obtain ⟨x, lv⟩ := x
    dsimp only at hx1 h6 hn2
    have c1 := rd_s (htl (A := [_]) h6).cel
    have r1 := rd_bm (htl (A := [_]) h6) (List.mem_cons_self ..) 3 rfl
    have hlen2 := rl_len f x
    obtain ⟨la, lc, le, hlv⟩ := h6.own.arr.shape
    by_cases hxw : x < wn
    · simp -implicitDefEqProofs -dsimp (disch := omega) only [go_sem, Nat.reduceEqDiff, ↓reduceIte, Nat.reduceAdd, Nat.reduceMul, Nat.reduceSub, Nat.reduceLT, Nat.reduceLeDiff, Int.reduceLT, Int.reduceLE, Int.reduceEq, Int.reduceNeg, Int.reduceAdd, Int.reduceMul, Int.reduceSub, Int.reduceToNat, reduceCtorEq, dec_t, dec_f, burinref9_Of_l1, c1, r1]
      refine getS_ct hz h6 (sr.mono fun H' h' => htl (A := [_]) h') fun H5 h7 => ?_
      rw [getV_in x y rfl rfl hxw he, hf']
      have r1 := rd_bm (htl (A := [_]) h7) (List.mem_cons_self ..) 3 rfl
      by_cases hfx : f x = true
      · rw [hfx, Bool.toNat_true]
        simp -implicitDefEqProofs -dsimp (disch := omega) only [go_sem, Nat.reduceEqDiff, ↓reduceIte, Nat.reduceAdd, Nat.reduceMul, Nat.reduceSub, Nat.reduceLT, Nat.reduceLeDiff, Int.reduceLT, Int.reduceLE, Int.reduceEq, Int.reduceNeg, Int.reduceAdd, Int.reduceMul, Int.reduceSub, Int.reduceToNat, reduceCtorEq, dec_t, dec_f, show ((1 : Nat) : Int) = 1 from rfl, r1, w64]
        refine getS_ct hz h7 (sr.mono fun H' h' => htl (A := [_]) h') fun H6 h8 => ?_
        by_cases hp1 : x = 0 ∨ f (x - 1) = false
        · have e0 : getV wn hn (pixOf wn ws) ((x : Int) - 1) y = 0 := by
            rcases hp1 with rfl | k
            · unfold getV; rw [if_neg (by omega)]
            · by_cases x0 : x = 0
              · subst x0; unfold getV; rw [if_neg (by omega)]
              · rw [getV_in (x - 1) y (by omega) rfl (by omega) he, hf', k]; rfl
          rw [e0]
          obtain ⟨lv', H7, ha, hoo, hsm, hff⟩ := app_one h8.own (M := [.int .i64 x, .int .i64 (x + 1 : Nat)]) (m := 1) (eb := 16) rfl rfl (by omega) (by omega)
          have h9 := h8.lst' hsm hoo hff
          rw [show ((x + 1 : Nat) : Int) = (x : Int) + 1 by omega] at ha
          simp -implicitDefEqProofs -dsimp (disch := omega) only [go_sem, Nat.reduceEqDiff, ↓reduceIte, Nat.reduceAdd, Nat.reduceMul, Nat.reduceSub, Nat.reduceLT, Nat.reduceLeDiff, Int.reduceLT, Int.reduceLE, Int.reduceEq, Int.reduceNeg, Int.reduceAdd, Int.reduceMul, Int.reduceSub, Int.reduceToNat, reduceCtorEq, dec_t, dec_f, show ((0 : Nat) : Int) = 0 from rfl, w64, ha]
          refine hn2 (x + 1, lv') H7 (by dsimp only; omega) ⟨by dsimp only; omega, ?_⟩
          dsimp only
          rw [rl, hfx, if_pos rfl, if_pos hp1, rcells_snoc, List.length_append]
          exact h9
        · have hx0 : x ≠ 0 := fun e => hp1 (Or.inl e)
          have hfp : f (x - 1) = true := by simpa using fun e => hp1 (Or.inr e)
          have e1 : getV wn hn (pixOf wn ws) ((x : Int) - 1) y = 1 := by rw [getV_in (x - 1) y (by omega) rfl (by omega) he, hf', hfp]; rfl
          rw [e1]
          have hne : rl f x ≠ [] := by have := rl_ne hfp; rwa [Nat.sub_add_cancel (by omega)] at this
          have hpos : 0 < (rl f x).length := List.length_pos_iff.2 hne
          obtain ⟨bb, eb, hbv, hww, hoo, hsm⟩ := wr_own h8.own (i := (rl f x).length - 1) (k := 1) (by omega) (vs := [.int .i64 ((x + 1 : Nat) : Int)]) (by simp) rfl
          have h9 := h8.lst' hsm hoo fun _ h => Or.inl h
          rw [rcells_over hne] at hww h9
          have el : (((rl f x).length : Nat) : Int) - 1 = (((rl f x).length - 1 : Nat) : Int) := by omega
          rw [show ((x + 1 : Nat) : Int) = (x : Int) + 1 by omega] at hww
          cases eb
          simp -implicitDefEqProofs -dsimp (disch := omega) only [go_sem, Nat.reduceEqDiff, ↓reduceIte, Nat.reduceAdd, Nat.reduceMul, Nat.reduceSub, Nat.reduceLT, Nat.reduceLeDiff, Int.reduceLT, Int.reduceLE, Int.reduceEq, Int.reduceNeg, Int.reduceAdd, Int.reduceMul, Int.reduceSub, Int.reduceToNat, reduceCtorEq, dec_t, dec_f, show ((1 : Nat) : Int) = 1 from rfl, w64, el, Int.toNat_natCast, hww]
          refine hn2 (x + 1, _) _ (by dsimp only; omega) ⟨by dsimp only; omega, ?_⟩
          dsimp only
          rw [show rl f (x + 1) = (rl f x).dropLast ++ [(((rl f x).getLastD (0, 0)).1, ((x + 1 : Nat) : Int))] by rw [rl, hfx, if_pos rfl, if_neg hp1]]
          have el2 : ((rl f x).dropLast ++ [(((rl f x).getLastD (0, 0)).1, ((x + 1 : Nat) : Int))]).length = (rl f x).length := by simp; omega
          rw [el2]
          exact h9
      · have hfx : f x = false := by simpa using hfx
        rw [hfx, Bool.toNat_false]
        simp -implicitDefEqProofs -dsimp (disch := omega) only [go_sem, Nat.reduceEqDiff, ↓reduceIte, Nat.reduceAdd, Nat.reduceMul, Nat.reduceSub, Nat.reduceLT, Nat.reduceLeDiff, Int.reduceLT, Int.reduceLE, Int.reduceEq, Int.reduceNeg, Int.reduceAdd, Int.reduceMul, Int.reduceSub, Int.reduceToNat, reduceCtorEq, dec_t, dec_f, show ((0 : Nat) : Int) = 0 from rfl, w64, cadd1]
        refine hn2 (x + 1, lv) H5 (by dsimp only; omega) ⟨by dsimp only; omega, ?_⟩
        dsimp only
        rw [show rl f (x + 1) = rl f x by rw [rl, hfx]; rfl]
        exact h7
    · obtain rfl : x = wn := by omega
      subst hlv
      simp -implicitDefEqProofs -dsimp (disch := omega) only [go_sem, Nat.reduceEqDiff, ↓reduceIte, Nat.reduceAdd, Nat.reduceMul, Nat.reduceSub, Nat.reduceLT, Nat.reduceLeDiff, Int.reduceLT, Int.reduceLE, Int.reduceEq, Int.reduceNeg, Int.reduceAdd, Int.reduceMul, Int.reduceSub, Int.reduceToNat, reduceCtorEq, dec_t, dec_f, burinref9_Of_l1, c1]
      rw [hxx2]
      obtain ⟨ov', H5, ha, hoo, hsm, hff⟩ := app_one h6.p1.own (M := [.sl la (rl f x).length lc le]) (m := 1) (eb := 24) rfl rfl (by omega) (by omega)
      have h7 := h6.p1.lst' hsm hoo hff
      simp -implicitDefEqProofs -dsimp (disch := omega) only [go_sem, Nat.reduceEqDiff, ↓reduceIte, Nat.reduceAdd, Nat.reduceMul, Nat.reduceSub, Nat.reduceLT, Nat.reduceLeDiff, Int.reduceLT, Int.reduceLE, Int.reduceEq, Int.reduceNeg, Int.reduceAdd, Int.reduceMul, Int.reduceSub, Int.reduceToNat, reduceCtorEq, dec_t, dec_f, ha, w64, cadd1]
      refine hnn ⟨y + 1, ov', RL ++ [⟨.sl la (rl f x).length lc le, rl f x⟩]⟩ H5 (by dsimp only; omega) ⟨by dsimp only; omega, ?_, ?_⟩
      · dsimp only
        rw [List.map_append, hrl, rowsOf_succ]
        simp only [hf', List.map_cons, List.map_nil]
      · dsimp only
        unfold StR
        simp only [List.map_append, List.map_cons, List.map_nil, List.length_append, List.length_cons, List.length_nil]
        exact Hs.perm h7 (perm_one _ _ _ _)
  · obtain rfl : y = hn := by omega
    simp -implicitDefEqProofs -dsimp (disch := omega) only [go_sem, Nat.reduceEqDiff, ↓reduceIte, Nat.reduceAdd, Nat.reduceMul, Nat.reduceSub, Nat.reduceLT, Nat.reduceLeDiff, Int.reduceLT, Int.reduceLE, Int.reduceEq, Int.reduceNeg, Int.reduceAdd, Int.reduceMul, Int.reduceSub, Int.reduceToNat, reduceCtorEq, dec_t, dec_f, burinref9_Of_l0, RfS.fr, c1]
    rw [hx]
    simp -implicitDefEqProofs -dsimp (disch := omega) only [go_sem, Nat.reduceEqDiff, ↓reduceIte, Nat.reduceAdd, Nat.reduceMul, Nat.reduceSub, Nat.reduceLT, Nat.reduceLeDiff, Int.reduceLT, Int.reduceLE, Int.reduceEq, Int.reduceNeg, Int.reduceAdd, Int.reduceMul, Int.reduceSub, Int.reduceToNat, reduceCtorEq, dec_t, dec_f, ]
    refine hQ2 ov RL H3 hrl ?_
    have := Hs.perm (L := StR ov RL (Cel b [.int .i64 wn, .int .i64 y, v] :: R)) h4 (List.Perm.cons _ List.perm_middle)
    exact Hs.tail2 this
end
end Go.Ab
