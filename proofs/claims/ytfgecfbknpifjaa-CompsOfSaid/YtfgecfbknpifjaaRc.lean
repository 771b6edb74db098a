/- A row's runs; lists of rows; the program's Of. Conditions: none. -/
import Derived.Test.YtfgecfbknpifjaaRb
set_option linter.all false
namespace Go.Ab
/-- The runs of a row up to x. -/
def rl (f : Nat → Bool) : Nat → List (Int × Int)
  | 0 => []
  | x + 1 => if f x then (if x = 0 ∨ f (x - 1) = false then rl f x ++ [((x : Int), ((x + 1 : Nat) : Int))] else (rl f x).dropLast ++ [(((rl f x).getLastD (0, 0)).1, ((x + 1 : Nat) : Int))]) else rl f x
theorem rl_none {f : Nat → Bool} {s : Nat} : ∀ t, s ≤ t → (∀ z, s ≤ z → z < t → f z = false) → rl f t = rl f s
  | 0, h, _ => by rw [show s = 0 by omega]
  | t + 1, h, k => by
    by_cases e : s = t + 1
    · rw [e]
    · rw [rl, k t (by omega) (by omega), if_neg (by simp)]
      exact rl_none t (by omega) fun z a b => k z a (by omega)
theorem rl_run {f : Nat → Bool} {s : Nat} (h0 : s = 0 ∨ f (s - 1) = false) : ∀ t, s < t → (∀ z, s ≤ z → z < t → f z = true) → rl f t = rl f s ++ [((s : Int), (t : Int))]
  | 0, h, _ => by omega
  | t + 1, h, k => by
    by_cases e : s = t
    · subst e; rw [rl, k s (by omega) (by omega), if_pos rfl, if_pos h0]
    · rw [rl, k t (by omega) (by omega), if_pos rfl, if_neg (by rw [k (t - 1) (by omega) (by omega)]; simp; omega), rl_run h0 t (by omega) fun z a b => k z a (by omega)]
      simp
theorem rl_len (f : Nat → Bool) : ∀ x, (rl f x).length ≤ x
  | 0 => Nat.le_refl _
  | x + 1 => by
    have := rl_len f x
    have h2 : (rl f (x + 1)).length ≤ (rl f x).length + 1 := by
      rw [rl]
      split
      · split
        · simp
        · simp
          try omega
      · omega
    omega
theorem rl_congr {f g : Nat → Bool} : ∀ x, (∀ z, z < x → f z = g z) → rl f x = rl g x
  | 0, _ => rfl
  | x + 1, h => by
    have ih := rl_congr x fun z hz => h z (by omega)
    rw [rl, rl, ih, h x (by omega)]
    by_cases e : x = 0
    · subst e; rfl
    · rw [h (x - 1) (by omega)]
def rcells (l : List (Int × Int)) : List V := l.flatMap fun r => [.int .i64 r.1, .int .i64 r.2]
theorem rcells_len : ∀ l, (rcells l).length = l.length * 2
  | [] => rfl
  | o :: l => by rw [rcells, List.flatMap_cons, List.length_append, show (l.flatMap _).length = _ from rcells_len l]; simp; omega
theorem rcells_snoc (l : List (Int × Int)) (r : Int × Int) : rcells (l ++ [r]) = rcells l ++ [.int .i64 r.1, .int .i64 r.2] := by simp [rcells]
theorem rcells_at : ∀ {l : List (Int × Int)} {i : Nat} (hi : i < l.length), ((rcells l).drop (i * 2)).take 2 = [.int .i64 l[i].1, .int .i64 l[i].2]
  | o :: l, 0, _ => by simp [rcells]
  | o :: l, i + 1, hi => by
    have := rcells_at (l := l) (i := i) (by simpa using hi)
    rw [show (i + 1) * 2 = 2 + i * 2 by omega, ← List.drop_drop]
    simpa [rcells] using this
structure RowR where
  v : V
  l : List (Int × Int)
def RowR.as (r : RowR) : As := Lst r.v 2 r.l.length (rcells r.l)
/-- Rows of runs of one's own. -/
def StR (ov : V) (RL : List RowR) (T : List As) : List As := Lst ov 1 RL.length (RL.map RowR.v) :: (RL.map RowR.as ++ T)
theorem u64s_sub (ws : List Nat) (k m : Nat) : ((u64s ws).drop k).take m = u64s ((ws.drop k).take m) := by simp [u64s, List.map_take, List.map_drop]
theorem rwB_sub {w : Nat} {ws : List Nat} {y z : Nat} (hz : z < w) : rwB ((ws.drop (y * wds w)).take (wds w)) z = pixOf w ws z y := by
  unfold rwB pixOf
  congr 1
  rw [List.getD_eq_getElem?_getD, List.getD_eq_getElem?_getD, List.getElem?_take, if_pos (wds_of hz), List.getElem?_drop]
theorem Hs.drops {H : Heap} {R : List As} : ∀ {A : List As}, Hs H (A ++ R) → Hs H R
  | [], h => h
  | _ :: _, h => Hs.drops (Hs.tail h)
/-- The runs of all rows. -/
def rowsOf (p : Nat → Nat → Bool) (w h : Nat) : List (List (Int × Int)) := (List.range h).map fun y => rl (fun x => p x y) w
theorem rowsOf_succ (p : Nat → Nat → Bool) (w h : Nat) : rowsOf p w (h + 1) = rowsOf p w h ++ [rl (fun x => p x h) w] := by simp [rowsOf, List.range_succ]
theorem rowsOf_len (p : Nat → Nat → Bool) (w h : Nat) : (rowsOf p w h).length = h := by simp [rowsOf]
theorem nx_ff {f : Nat → Bool} {w x y : Nat} (h : IsNx (fun z => f z != false) w x y) : IsNx f w x y := ⟨h.ge, h.le, fun z a b => by simpa using h.no z a b, fun k => by simpa using h.yes k⟩
section
variable {P : Prog} {H : Heap} {R : List As} {Q : Out → Heap → Prop}
structure RoS where
  y : Nat
  ov : V
  RL : List RowR
def RoS.fr (b wd h : Nat) (x : RoS) : Fr := ⟨[(1, .ptr (some (b, 0))), (4, .int .i64 wd), (5, x.ov), (19, .int .i64 h), (20, .int .i64 (x.y : Nat))], []⟩
theorem perm_one (a d : As) (X T : List As) : (a :: d :: (X ++ T)).Perm (a :: (X ++ [d] ++ T)) := by
  rw [List.append_assoc]
  exact List.Perm.cons a List.perm_middle.symm
set_option maxHeartbeats 1000000 in
theorem runsOf_ct (hb : HasBm P) (hp : HasRu P) {w h : Int} {v : V} {ws : List Nat} (hs : Hs H R) (hv : ∀ H', Hs H' R → Arr H' v 1 ws.length (u64s ws)) (hl : ∀ n ∈ ws, n < 18446744073709551616) (hw : i64r w) (hh : i64r h)
    (hQ1 : ¬ mayB w h ws → ∀ H', Hs H' R → Q (.ret (.tup [.sl none 0 0 0, .int .i64 80])) H')
    (hQ2 : mayB w h ws → ∀ ov RL H', RL.map RowR.l = rowsOf (pixOf w.toNat ws) w.toNat h.toNat → Hs H' (StR ov RL R) → Q (.ret (.tup [ov, .int .i64 0])) H') : Call P 115 [.agg [.int .i64 w, .int .i64 h, v]] H Q := by
  refine call_of hp.h_runs_Of rfl ?_
  have h1 := hs.alloc (l := [.int .i64 w, .int .i64 h, v])
  have r1 := rd_m h1.cel 3 0
  simp -implicitDefEqProofs -dsimp (disch := omega) only [go_sem, dec_t, dec_f, ]
  generalize H.new _ = H1 at *
  generalize H.next = b at *
  rw [show (piece [V.int .i64 w, .int .i64 h, v] 0 3).map V.agg = some (.agg [.int .i64 w, .int .i64 h, v]) from rfl] at r1
  simp -implicitDefEqProofs -dsimp (disch := omega) only [go_sem, dec_t, dec_f, r1]
  refine check_ct hb h1 (hv H1 h1.tail) hl hw hh fun ck H2 hck h2 _ => ?_
  by_cases m : mayB w h ws
  rotate_left
  · obtain rfl : ck = false := by
      cases ck with
      | false => rfl
      | true => exact absurd (hck.1 rfl) m
    simp -implicitDefEqProofs -dsimp (disch := omega) only [go_sem, dec_t, dec_f, ]
    exact hQ1 m H2 h2.tail
  obtain rfl : ck = true := hck.2 m
  have hQ2 := hQ2 m
  obtain ⟨⟨m1, m2, m3⟩, m4, m5⟩ := m
  have hle := sizeOk_le ⟨m1, m2, m3⟩
  obtain ⟨wn, rfl⟩ : ∃ k : Nat, w = k := ⟨w.toNat, by omega⟩
  obtain ⟨hn, rfl⟩ : ∃ k : Nat, h = k := ⟨h.toNat, by omega⟩
  rw [Int.toNat_natCast, Int.toNat_natCast] at m4 hQ2
  have m3 : wn * hn ≤ 1048576 := by rw [← Int.natCast_mul] at m3; omega
  have kw := wds_le m3 (by omega)
  have ew : ((wn : Int) + 63) / 64 = ((wds wn : Nat) : Int) := by unfold wds; omega
  have hwd : 0 < wds wn := by unfold wds; omega
  have hwh : wds wn ≤ hn * wds wn := Nat.le_mul_of_pos_left _ (by omega)
  have c1 := rd_s h2.cel
  simp -implicitDefEqProofs -dsimp (disch := omega) only [go_sem, dec_t, dec_f, c1, w64, tdivN, ew]
  have h3 : Hs H2 (StR (.sl none 0 0 0) [] (Cel b [.int .i64 wn, .int .i64 hn, v] :: R)) := h2.lst (Same.refl _ _) (own_nil _ 1) fun _ h => h.elim
  refine loop_dec (σ := RoS) (fun x => hn - x.y) (RoS.fr b (wds wn) hn) (fun x H => x.y ≤ hn ∧ x.RL.map RowR.l = rowsOf (pixOf wn ws) wn x.y ∧ Hs H (StR x.ov x.RL (Cel b [.int .i64 wn, .int .i64 hn, v] :: R))) (fun x H3 K ⟨hy, hrl, h4⟩ hnn hx hrr => ?_) ⟨0, .sl none 0 0 0, []⟩ H2 ⟨by simp, rfl, h3⟩
  obtain ⟨y, ov, RL⟩ := x
  dsimp only at hy hrl h4 hnn
  have hRL : RL.length = y := by have := congrArg List.length hrl; simpa [rowsOf_len] using this
  have htl : ∀ {H'} {A : List As}, Hs H' (A ++ StR ov RL (Cel b [.int .i64 wn, .int .i64 hn, v] :: R)) → Hs H' (Cel b [.int .i64 wn, .int .i64 hn, v] :: R) := fun {H'} {A} h => (h.drops.tail).drops
  by_cases he : y < hn
  · have hvb := fun {H'} {A : List As} (h : Hs H' (A ++ StR ov RL (Cel b [.int .i64 wn, .int .i64 hn, v] :: R))) => hv H' (htl h).tail
    have hcb := fun {H'} {A : List As} (h : Hs H' (A ++ StR ov RL (Cel b [.int .i64 wn, .int .i64 hn, v] :: R))) => rd_s (htl h).cel
    have hlen : 0 < ws.length := by rw [m4]; exact Nat.mul_pos (by omega) hwd
    obtain ⟨vb, vo, vc, rfl⟩ := (hvb (A := []) h4).at0 hlen
    have hcap := (hvb (A := []) h4).cap
    have l1 : (y + 1) * wds wn = y * wds wn + wds wn := by rw [Nat.add_mul, Nat.one_mul]
    have l2 : (y + 1) * wds wn ≤ hn * wds wn := Nat.mul_le_mul_right _ he
    have ey : (y : Int) * ((wds wn : Nat) : Int) = ((y * wds wn : Nat) : Int) := (Int.natCast_mul _ _).symm
    have ey1 : ((y : Int) + 1) * ((wds wn : Nat) : Int) = (((y + 1) * wds wn : Nat) : Int) := by rw [Int.natCast_mul]; rfl
    have l3 : (y + 1) * wds wn - y * wds wn = wds wn := by omega
    have c1 := hcb (A := []) h4
    have arr := fun {H'} {A : List As} (h : Hs H' (A ++ StR ov RL (Cel b [.int .i64 wn, .int .i64 hn, .sl (some (vb, vo)) ws.length vc 1] :: R))) => (hvb h).sub (k := y * wds wn) (m := wds wn) (by omega)
    simp only [Nat.mul_one, u64s_sub] at arr
    have hwl : ((ws.drop (y * wds wn)).take (wds wn)).length = wds wn := by simp; omega
    have hwb : ∀ n ∈ (ws.drop (y * wds wn)).take (wds wn), n < 18446744073709551616 := fun n hn => hl n (List.mem_of_mem_drop (List.mem_of_mem_take hn))
    have hnx' : ∀ {bk x e}, IsNx (fun z => rwB ((ws.drop (y * wds wn)).take (wds wn)) z != bk) wn x e → IsNx (fun z => pixOf wn ws z y != bk) wn x e := fun {bk x e} h => ⟨h.ge, h.le, fun z a c => by
      have k := h.no z a c
      rw [rwB_sub (z := z) (by have := h.le; omega)] at k; exact k, fun k => by
      have q := h.yes k
      rw [rwB_sub k] at q; exact q⟩
    generalize hrow : (V.sl (some (vb, vo + y * wds wn)) (wds wn) (vc - y * wds wn) 1) = row at arr
    have arr' := fun {H'} {A : List As} (h : Hs H' (A ++ StR ov RL (Cel b [.int .i64 wn, .int .i64 hn, .sl (some (vb, vo)) ws.length vc 1] :: R))) => (by rw [hwl]; exact arr h : Arr H' row 1 ((ws.drop (y * wds wn)).take (wds wn)).length (u64s ((ws.drop (y * wds wn)).take (wds wn))))
    simp -implicitDefEqProofs -dsimp (disch := omega) only [go_sem, dec_t, dec_f, runs_Of_l0, RoS.fr, c1, ey, ey1, w64, Int.toNat_natCast, Nat.mul_one, l3, hrow]
    refine ends_ct hp (x := 0) (arr' (A := []) h4) hwl hwb ⟨by omega, by omega⟩ (by omega) fun x0 hx0 => ?_
    have hx0 := nx_ff (hnx' hx0)
    simp -implicitDefEqProofs -dsimp (disch := omega) only [go_sem, dec_t, dec_f, ]
    have h5 : Hs H3 (Lst (.sl none 0 0 0) 2 0 (rcells []) :: StR ov RL (Cel b [.int .i64 wn, .int .i64 hn, .sl (some (vb, vo)) ws.length vc 1] :: R)) := h4.lst (Same.refl _ _) (own_nil _ 2) fun _ h => h.elim
    obtain ⟨f, hf⟩ : ∃ f : Nat → Bool, (fun z => pixOf wn ws z y) = f := ⟨_, rfl⟩
    have hf' : ∀ z, pixOf wn ws z y = f z := fun z => by rw [← hf]
    simp only [hf'] at hnx'
    rw [hf] at hx0
    refine loop_dec (σ := Nat × V) (fun x => wn - x.1) (fun x => ⟨[(1, .ptr (some (b, 0))), (4, .int .i64 (wds wn : Nat)), (5, ov), (7, row), (8, x.2), (9, .int .i64 (x.1 : Nat)), (19, .int .i64 hn), (20, .int .i64 y)], []⟩)
      (fun x H => x.1 ≤ wn ∧ (x.1 < wn → f x.1 = true ∧ (x.1 = 0 ∨ f (x.1 - 1) = false)) ∧ Hs H (Lst x.2 2 (rl f x.1).length (rcells (rl f x.1)) :: StR ov RL (Cel b [.int .i64 wn, .int .i64 hn, .sl (some (vb, vo)) ws.length vc 1] :: R)))
      (fun x H4 K2 ⟨hx1, hx2, h6⟩ hn2 hxx2 hrr2 => ?_) (x0, .sl none 0 0 0) H3 ⟨hx0.le, fun k => ⟨hx0.yes k, ?_⟩, ?_⟩
    rotate_left
    · by_cases e : x0 = 0
      · exact Or.inl e
      · exact Or.inr (hx0.no (x0 - 1) (by omega) (by omega))
    · dsimp only
      rw [rl_none (s := 0) x0 (by omega) fun z _ hz => hx0.no z (by omega) hz]
      exact h5
    obtain ⟨x, lv⟩ := x
    dsimp only at hx1 hx2 h6 hn2
    have c1 := hcb (A := [_]) h6
    by_cases hxw : x < wn
    · obtain ⟨f1, f2⟩ := hx2 hxw
      simp -implicitDefEqProofs -dsimp (disch := omega) only [go_sem, dec_t, dec_f, runs_Of_l1, c1]
      refine ends_ct hp (arr' (A := [_]) h6) hwl hwb ⟨by omega, by omega⟩ (by omega) fun t ht => ?_
      have ht := hnx' ht
      have htx : x < t := by
        rcases Nat.lt_or_ge x t with k | k
        · exact k
        · have e : t = x := by have := ht.ge; omega
          subst e
          have := ht.yes hxw
          rw [f1] at this; simp at this
      have hlen2 := rl_len f x
      obtain ⟨lv', H5, ha, hoo, hsm, hff⟩ := app_one h6.own (M := [.int .i64 x, .int .i64 t]) (m := 1) (eb := 16) rfl rfl (by omega) (by omega)
      have h7 := h6.lst' hsm hoo hff
      have e7 : rl f t = rl f x ++ [((x : Int), (t : Int))] := rl_run f2 t htx fun z a c => by simpa using ht.no z a c
      have c1 := hcb (A := [_]) h7
      simp -implicitDefEqProofs -dsimp (disch := omega) only [go_sem, dec_t, dec_f, ha, c1]
      refine ends_ct hp (arr' (A := [_]) h7) hwl hwb ⟨by omega, by omega⟩ ht.le fun x2 hx2' => ?_
      have hx2' := nx_ff (hnx' hx2')
      simp -implicitDefEqProofs -dsimp (disch := omega) only [go_sem, dec_t, dec_f, ]
      refine hn2 (x2, lv') H5 (by have := hx2'.ge; dsimp only; omega) ⟨hx2'.le, fun k => ⟨hx2'.yes k, Or.inr ?_⟩, ?_⟩
      · have hge := hx2'.ge
        have htw : t < wn := by have := hx2'.le; dsimp only at k; omega
        have hft : f t = false := by have := ht.yes htw; simpa using this
        have htx2 : t ≠ x2 := by rintro rfl; rw [hx2'.yes k] at hft; cases hft
        exact hx2'.no (x2 - 1) (by omega) (by omega)
      · dsimp only
        rw [rl_none x2 hx2'.ge hx2'.no, e7, rcells_snoc, List.length_append]
        exact h7
    · obtain rfl : x = wn := by omega
      simp -implicitDefEqProofs -dsimp (disch := omega) only [go_sem, dec_t, dec_f, runs_Of_l1, c1]
      rw [hxx2]
      have hrl1 := RL.length
      obtain ⟨la, lc, le, rfl⟩ := h6.own.arr.shape
      obtain ⟨ov', H5, ha, hoo, hsm, hff⟩ := app_one h6.p1.own (M := [.sl la (rl f x).length lc le]) (m := 1) (eb := 24) rfl rfl (by omega) (by omega)
      have h7 := h6.p1.lst' hsm hoo hff
      simp -implicitDefEqProofs -dsimp (disch := omega) only [go_sem, dec_t, dec_f, ha, w64, cadd1]
      refine hnn ⟨y + 1, ov', RL ++ [⟨.sl la (rl f x).length lc le, rl f x⟩]⟩ H5 (by dsimp only; omega) ⟨by dsimp only; omega, ?_, ?_⟩
      · dsimp only
        rw [List.map_append, hrl, rowsOf_succ]
        simp only [hf', List.map_cons, List.map_nil]
      · dsimp only
        unfold StR
        simp only [List.map_append, List.map_cons, List.map_nil, List.length_append, List.length_cons, List.length_nil]
        exact Hs.perm h7 (perm_one _ _ _ _)
  · obtain rfl : y = hn := by omega
    simp -implicitDefEqProofs -dsimp (disch := omega) only [go_sem, dec_t, dec_f, runs_Of_l0, RoS.fr]
    rw [hx]
    simp -implicitDefEqProofs -dsimp (disch := omega) only [go_sem, dec_t, dec_f, ]
    refine hQ2 ov RL H3 hrl ?_
    have := Hs.perm (L := StR ov RL (Cel b [.int .i64 wn, .int .i64 y, v] :: R)) h4 (List.Perm.cons _ List.perm_middle)
    exact Hs.tail2 this
end
end Go.Ab
