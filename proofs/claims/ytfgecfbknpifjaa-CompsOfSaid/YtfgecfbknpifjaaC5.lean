/- The reference's Set, span, Fill, Crop, Mirror, Turn, Invert, Blit. Conditions: none. -/
import Derived.Test.YtfgecfbknpifjaaC4
import Derived.Test.YtfgecfbknpifjaaK4
import Derived.Test.YtfgecfbknpifjaaPRef2
set_option linter.all false
namespace Go.Ab

/-- Pixels are written one by one: of rows d .. those below jj are done, of row jj those below ii. -/
def pr2 (p f : Nat → Nat → Bool) (X Y : Int) (a c d : Nat) (jj ii : Nat) : Nat → Nat → Bool := fun i j =>
  if ((a : Int) ≤ i - X ∧ (i : Int) - X < c ∧ (d : Int) ≤ j - Y) ∧ ((j : Int) - Y < jj ∨ ((j : Int) - Y = jj ∧ (i : Int) - X < ii)) then f i j else p i j
theorem pr2_step {p f : Nat → Nat → Bool} {X Y : Int} {a c d jj ii : Nat} {v : Bool} {x y : Nat} (hx : X + ii = x) (hy : Y + jj = y) (h1 : a ≤ ii) (h2 : ii < c) (h3 : d ≤ jj) (hv : v = f x y) (i j : Nat) :
    updP (pr2 p f X Y a c d jj ii) x y v i j = pr2 p f X Y a c d jj (ii + 1) i j := by
  unfold updP pr2
  by_cases e : i = x ∧ j = y
  · obtain ⟨rfl, rfl⟩ := e
    rw [if_pos ⟨rfl, rfl⟩, if_pos (by omega), hv]
  · rw [if_neg e]
    by_cases k : ((a : Int) ≤ i - X ∧ (i : Int) - X < c ∧ (d : Int) ≤ j - Y) ∧ ((j : Int) - Y < jj ∨ ((j : Int) - Y = jj ∧ (i : Int) - X < ii))
    · rw [if_pos k, if_pos (by omega)]
    · rw [if_neg k, if_neg (by omega)]
theorem pr2_row {p f : Nat → Nat → Bool} {X Y : Int} {a c d jj : Nat} (i j : Nat) : pr2 p f X Y a c d jj (max a c) i j = pr2 p f X Y a c d (jj + 1) a i j := by
  unfold pr2
  by_cases k : ((a : Int) ≤ i - X ∧ (i : Int) - X < c ∧ (d : Int) ≤ j - Y) ∧ ((j : Int) - Y < jj ∨ ((j : Int) - Y = jj ∧ (i : Int) - X < (max a c : Nat)))
  · rw [if_pos k, if_pos (by omega)]
  · rw [if_neg k, if_neg (by omega)]
theorem pr2_start {p f : Nat → Nat → Bool} {X Y : Int} {a c d : Nat} (i j : Nat) : pr2 p f X Y a c d d a i j = p i j := by
  unfold pr2; rw [if_neg (by omega)]
theorem pr2_end {p f : Nat → Nat → Bool} {X Y : Int} {a c d e : Nat} (i j : Nat) : pr2 p f X Y a c d (max d e) a i j = if ((a : Int) ≤ i - X ∧ (i : Int) - X < c) ∧ (d : Int) ≤ j - Y ∧ (j : Int) - Y < e then f i j else p i j := by
  unfold pr2
  by_cases k : ((a : Int) ≤ i - X ∧ (i : Int) - X < c) ∧ (d : Int) ≤ j - Y ∧ (j : Int) - Y < e
  · rw [if_pos k, if_pos (by omega)]
  · rw [if_neg k, if_neg (by omega)]
theorem pr2_cur {p f : Nat → Nat → Bool} {X Y : Int} {a c d jj ii x y : Nat} (hx : X + ii = x) (hy : Y + jj = y) : pr2 p f X Y a c d jj ii x y = p x y := by
  unfold pr2; rw [if_neg (by omega)]

section
variable {P : Prog} {H : Heap} {R : List As} {Q : Out → Heap → Prop}

/-- Within [0, most): which i of n have 0 ≤ at + i < most. -/
theorem span_ct (hp : HasRef2 P) {at_ n : Int} {most : Nat} (ha : i64r at_) (hn : 0 ≤ n ∧ n ≤ 9223372036854775807) (hm : 1 ≤ most ∧ most ≤ 1048576)
    (hQ : ∀ a b : Nat, (∀ i : Int, (a : Int) ≤ i ∧ i < b ↔ 0 ≤ i ∧ i < n ∧ 0 ≤ at_ + i ∧ at_ + i < most) → ((b : Int) ≤ n ∧ (a : Int) ≤ 9223372036854775807) → Q (.ret (.tup [.int .i64 a, .int .i64 b])) H) :
    Call P 86 [.int .i64 at_, .int .i64 n, .int .i64 most] H Q := by
  refine call_of hp.h_burinref2_span rfl ?_
  unfold i64r at ha
  obtain ⟨nn, rfl⟩ : ∃ k : Nat, n = k := ⟨n.toNat, by omega⟩
  by_cases c1 : at_ < 0
  · obtain ⟨u, rfl⟩ : ∃ k : Nat, at_ = -(k : Int) := ⟨(-at_).toNat, by omega⟩
    by_cases c2 : u = 9223372036854775808
    · subst c2
      simp -implicitDefEqProofs -dsimp (disch := omega) only [go_sem, dec_t, dec_f, ]
      exact hQ 0 0 (fun i => by omega) (by omega)
    · by_cases c3 : nn ≤ u
      · simp -implicitDefEqProofs -dsimp (disch := omega) only [go_sem, dec_t, dec_f, w64, show (0 : Int) - -(u : Int) = u by omega]
        exact hQ 0 0 (fun i => by omega) (by omega)
      · by_cases c4 : most < nn - u
        · simp -implicitDefEqProofs -dsimp (disch := omega) only [go_sem, dec_t, dec_f, w64, show (0 : Int) - -(u : Int) = u by omega]
          exact hQ u (u + most) (fun i => by omega) (by omega)
        · simp -implicitDefEqProofs -dsimp (disch := omega) only [go_sem, dec_t, dec_f, w64, show (0 : Int) - -(u : Int) = u by omega]
          exact hQ u nn (fun i => by omega) (by omega)
  · by_cases c2 : (most : Int) ≤ at_
    · simp -implicitDefEqProofs -dsimp (disch := omega) only [go_sem, dec_t, dec_f, w64]
      exact hQ 0 0 (fun i => by omega) (by omega)
    · by_cases c3 : (most : Int) - at_ < nn
      · obtain ⟨u, hu⟩ : ∃ k : Nat, (most : Int) - at_ = k := ⟨((most : Int) - at_).toNat, by omega⟩
        simp -implicitDefEqProofs -dsimp (disch := omega) only [go_sem, dec_t, dec_f, w64, hu]
        exact hQ 0 u (fun i => by omega) (by omega)
      · simp -implicitDefEqProofs -dsimp (disch := omega) only [go_sem, dec_t, dec_f, w64]
        exact hQ 0 nn (fun i => by omega) (by omega)
theorem setB_ct (hp : HasRef2 P) (hz : HasRz P) {v : V} {w h : Nat} {p : Nat → Nat → Bool} (hs : Hs H (BmA v w h p :: R)) {x y bit : Int}
    (hQ : ∀ H', Hs H' (BmA v w h (setP w h p x y bit) :: R) → Q (.ret (.int .i64 (setR w h x y bit))) H') : Call P 85 [.agg [.int .i64 w, .int .i64 h, v], .int .i64 x, .int .i64 y, .int .i64 bit] H Q := by
  obtain ⟨z1, z2, z3, z4, z5⟩ := bmSz hs
  refine call_of hp.h_burinref2_Set rfl ?_
  have h1 := hs.alloc (l := [.int .i64 w, .int .i64 h, v])
  have hc := h1.cel
  unfold setR setP at hQ
  by_cases c : insideB w h x y
  · have c' : 0 ≤ x ∧ x < w ∧ 0 ≤ y ∧ y < h := c
    rw [if_pos c] at hQ
    by_cases c2 : bit = 0 ∨ bit = 1
    · rw [if_pos ⟨c, c2⟩, if_pos c2] at hQ
      obtain ⟨xn, rfl⟩ : ∃ k : Nat, x = k := ⟨x.toNat, by omega⟩
      obtain ⟨yn, rfl⟩ : ∃ k : Nat, y = k := ⟨y.toNat, by omega⟩
      rcases c2 with rfl | rfl <;>
      · simp -implicitDefEqProofs -dsimp (disch := omega) only [go_sem, dec_t, dec_f, rd_bm h1 (List.mem_cons_self ..) 3 rfl]
        refine putR_ct hz (x := xn) (y := yn) h1.p1 (by omega) (by omega) fun H2 h2 => ?_
        simp -implicitDefEqProofs -dsimp (disch := omega) only [go_sem, dec_t, dec_f, ]
        exact hQ H2 h2.p1.tail
    · rw [if_neg c2, if_neg (fun e => c2 e.2)] at hQ
      simp -implicitDefEqProofs -dsimp (disch := omega) only [go_sem, dec_t, dec_f, ]
      exact hQ _ h1.tail
  · rw [if_neg c, if_neg (fun e => c e.1)] at hQ
    have c' : ¬ (0 ≤ x ∧ x < w ∧ 0 ≤ y ∧ y < h) := c
    have z6 : ¬ x < 0 → ¬ y < 0 → ¬ (w : Int) ≤ x → (h : Int) ≤ y := fun _ _ _ => by omega
    rcases (show x < 0 ∨ (0 ≤ x ∧ y < 0) ∨ (0 ≤ x ∧ 0 ≤ y ∧ (w : Int) ≤ x) ∨ (0 ≤ x ∧ 0 ≤ y ∧ x < w ∧ (h : Int) ≤ y) by omega) with d | d | d | d <;>
    · simp -implicitDefEqProofs -dsimp (disch := omega) only [go_sem, dec_t, dec_f, ]
      exact hQ _ h1.tail

theorem fillB_loop (hz : HasRz P) {v : V} {w h b a c d e : Nat} {p : Nat → Nat → Bool} {x y bit : Int} (hs : Hs H (Cel b [.int .i64 w, .int .i64 h, v] :: BmA v w h p :: R))
    (ka : ∀ i : Int, a ≤ i ∧ i < c → 0 ≤ x + i ∧ x + i < w) (kd : ∀ i : Int, d ≤ i ∧ i < e → 0 ≤ y + i ∧ y + i < h) (kb : (a : Int) ≤ 9223372036854775807 ∧ (c : Int) ≤ 9223372036854775807 ∧ (d : Int) ≤ 9223372036854775807 ∧ (e : Int) ≤ 9223372036854775807) {Qp : Post}
    (hQ : ∀ n H', Hs H' (Cel b [.int .i64 w, .int .i64 h, v] :: BmA v w h (fun i j => if ((a : Int) ≤ i - x ∧ (i : Int) - x < c) ∧ (d : Int) ≤ j - y ∧ (j : Int) - y < e then decide (bit = 1) else p i j) :: R) →
      Qp (.exit 0) ⟨[(1, .int .i64 x), (2, .int .i64 y), (5, .int .i64 bit), (6, .ptr (some (b, 0))), (13, .int .i64 a), (14, .int .i64 c), (16, .int .i64 e), (17, .int .i64 n), (50, .bool false)], []⟩ H') {s t} :
    loopL (Call P) [1, 2, 5, 6, 13, 14, 16, 17] burinref2_Fill_l0 Qp s t ⟨[(1, .int .i64 x), (2, .int .i64 y), (5, .int .i64 bit), (6, .ptr (some (b, 0))), (13, .int .i64 a), (14, .int .i64 c), (16, .int .i64 e), (17, .int .i64 d)], []⟩ H := by
  obtain ⟨z1, z2, z3, z4, z5⟩ := bmSz hs.p1
  refine loop_cnt (max d e) (fun jj => ⟨[(1, .int .i64 x), (2, .int .i64 y), (5, .int .i64 bit), (6, .ptr (some (b, 0))), (13, .int .i64 a), (14, .int .i64 c), (16, .int .i64 e), (17, .int .i64 jj)], []⟩)
    (fun jj H => d ≤ jj ∧ Hs H (Cel b [.int .i64 w, .int .i64 h, v] :: BmA v w h (pr2 p (fun _ _ => decide (bit = 1)) x y a c d jj a) :: R)) (fun jj H1 K hj ⟨hd, h1⟩ hn hx hr => ?_) d H (by omega) ⟨Nat.le_refl _, (hs.p1.bmc fun i j _ _ => (pr2_start i j).symm).p1⟩
  by_cases he : jj < e
  · have y1 := kd jj (by omega)
    obtain ⟨yn, hyn⟩ : ∃ k : Nat, y + jj = k := ⟨(y + jj).toNat, by omega⟩
    simp -implicitDefEqProofs -dsimp (disch := omega) only [go_sem, dec_t, dec_f, burinref2_Fill_l0]
    refine loop_cnt (max a c) (fun ii => ⟨[(1, .int .i64 x), (2, .int .i64 y), (5, .int .i64 bit), (6, .ptr (some (b, 0))), (13, .int .i64 a), (14, .int .i64 c), (16, .int .i64 e), (17, .int .i64 jj), (18, .int .i64 ii)], []⟩)
      (fun ii H => a ≤ ii ∧ Hs H (Cel b [.int .i64 w, .int .i64 h, v] :: BmA v w h (pr2 p (fun _ _ => decide (bit = 1)) x y a c d jj ii) :: R)) (fun ii H2 K2 hi ⟨ha, h2⟩ hn2 hx2 hr2 => ?_) a H1 (by omega) ⟨Nat.le_refl _, h1⟩
    by_cases hc : ii < c
    · have x1 := ka ii (by omega)
      obtain ⟨xn, hxn⟩ : ∃ k : Nat, x + ii = k := ⟨(x + ii).toNat, by omega⟩
      simp -implicitDefEqProofs -dsimp (disch := omega) only [go_sem, dec_t, dec_f, burinref2_Fill_l1, rd_bm h2 (List.mem_cons_self ..) 3 rfl, w64, hxn, hyn]
      refine putR_ct hz h2.p1 (by omega) (by omega) fun H3 h3 => ?_
      simp -implicitDefEqProofs -dsimp (disch := omega) only [go_sem, dec_t, dec_f, w64, cadd1]
      exact hn2 (by omega) H3 ⟨by omega, (h3.bmc fun i j _ _ => pr2_step hxn hyn ha hc hd rfl i j).p1⟩
    · simp -implicitDefEqProofs -dsimp (disch := omega) only [go_sem, dec_t, dec_f, burinref2_Fill_l1]
      rw [hx2]
      simp -implicitDefEqProofs -dsimp (disch := omega) only [go_sem, dec_t, dec_f, w64, cadd1]
      refine hn (by omega) H2 ⟨by omega, (h2.p1.bmc fun i j _ _ => ?_).p1⟩
      rw [show ii = max a c by omega]; exact pr2_row i j
  · simp -implicitDefEqProofs -dsimp (disch := omega) only [go_sem, dec_t, dec_f, burinref2_Fill_l0]
    rw [hx]
    refine hQ jj H1 (h1.p1.bmc fun i j _ _ => ?_).p1
    rw [show jj = max d e by omega, pr2_end]
theorem fillB_ct (hp : HasRef2 P) (hz : HasRz P) {v : V} {w h : Nat} {p : Nat → Nat → Bool} (hs : Hs H (BmA v w h p :: R)) {x y ww hh bit : Int} (hx : i64r x) (hy : i64r y) (hw : i64r ww) (hh' : i64r hh)
    (hQ : ∀ H', Hs H' (BmA v w h (if fillR ww hh bit = 0 then fillP p x y ww hh (decide (bit = 1)) else p) :: R) → Q (.ret (.int .i64 (fillR ww hh bit))) H') :
    Call P 87 [.agg [.int .i64 w, .int .i64 h, v], .int .i64 x, .int .i64 y, .int .i64 ww, .int .i64 hh, .int .i64 bit] H Q := by
  obtain ⟨z1, z2, z3, z4, z5⟩ := bmSz hs
  refine call_of hp.h_burinref2_Fill rfl ?_
  have h1 := hs.alloc (l := [.int .i64 w, .int .i64 h, v])
  unfold i64r at hw hh'
  by_cases c1 : ww < 0 ∨ hh < 0
  · rw [show fillR ww hh bit = 24 by unfold fillR; rw [if_pos c1]] at hQ
    rcases (show ww < 0 ∨ (0 ≤ ww ∧ hh < 0) by omega) with d | d <;>
    · simp -implicitDefEqProofs -dsimp (disch := omega) only [go_sem, dec_t, dec_f, ]; exact hQ _ h1.tail
  by_cases c2 : bit = 0 ∨ bit = 1
  · rw [show fillR ww hh bit = 0 by unfold fillR; rw [if_neg c1, if_pos c2], if_pos rfl] at hQ
    obtain ⟨nw, rfl⟩ : ∃ k : Nat, ww = k := ⟨ww.toNat, by omega⟩
    obtain ⟨nh, rfl⟩ : ∃ k : Nat, hh = k := ⟨hh.toNat, by omega⟩
    rcases c2 with rfl | rfl <;>
    · simp -implicitDefEqProofs -dsimp (disch := omega) only [go_sem, dec_t, dec_f, ]
      generalize H.new _ = H1 at *
      generalize H.next = b at *
      refine span_ct hp hx (by omega) ⟨z1, z4⟩ fun a c k1 k2 => ?_
      have hr := rd_bm h1 (List.mem_cons_self ..) 3 rfl
      have hc := h1.cel
      simp -implicitDefEqProofs -dsimp (disch := omega) only [go_sem, dec_t, dec_f, rd_s hc]
      refine span_ct hp hy (by omega) ⟨z2, z5⟩ fun d e k3 k4 => ?_
      simp -implicitDefEqProofs -dsimp (disch := omega) only [go_sem, dec_t, dec_f, ]
      refine fillB_loop hz h1 (fun i hi => by have := (k1 i).1 hi; omega) (fun i hi => by have := (k3 i).1 hi; omega) (by omega) fun n H2 h2 => ?_
      simp -implicitDefEqProofs -dsimp (disch := omega) only [go_sem, dec_t, dec_f, ]
      refine hQ H2 (h2.p1.bmc fun i j hi hj => ?_).tail2
      have := k1 (i - x)
      have := k3 (j - y)
      unfold fillP
      by_cases k : ((a : Int) ≤ i - x ∧ (i : Int) - x < c) ∧ (d : Int) ≤ j - y ∧ (j : Int) - y < e
      · rw [if_pos k, if_pos (by omega)]
      · rw [if_neg k, if_neg (by omega)]
  · rw [show fillR ww hh bit = 23 by unfold fillR; rw [if_neg c1, if_neg c2]] at hQ
    simp -implicitDefEqProofs -dsimp (disch := omega) only [go_sem, dec_t, dec_f, ]; exact hQ _ h1.tail
end
end Go.Ab
/- The reference's Mirror, Turn, Invert, Crop. Conditions: none. -/
namespace Go.Ab

/-- A bitmap that can be read where R holds. -/
structure Src (R : List As) (v : V) (w h : Nat) (p : Nat → Nat → Bool) : Prop where
  w1 : 1 ≤ w
  h1 : 1 ≤ h
  area : w * h ≤ 1048576
  words : ∃ ws : List Nat, (∀ H, Hs H R → Arr H v 1 ws.length (u64s ws)) ∧ ws.length = h * wds w ∧ (∀ n ∈ ws, n < 18446744073709551616) ∧ ∀ x y, x < w → y < h → pixOf w ws x y = p x y
theorem Src.mono {R R' : List As} {v : V} {w h : Nat} {p : Nat → Nat → Bool} (s : Src R v w h p) (k : ∀ H, Hs H R' → Hs H R) : Src R' v w h p :=
  ⟨s.w1, s.h1, s.area, let ⟨ws, a, b⟩ := s.words; ⟨ws, fun H h => a H (k H h), b⟩⟩
theorem Src.cons {R : List As} {A : As} {v : V} {w h : Nat} {p : Nat → Nat → Bool} (s : Src R v w h p) : Src (A :: R) v w h p := s.mono fun _ h => h.tail
theorem Src.congr {R : List As} {v : V} {w h : Nat} {p q : Nat → Nat → Bool} (s : Src R v w h p) (e : ∀ x y, x < w → y < h → p x y = q x y) : Src R v w h q :=
  ⟨s.w1, s.h1, s.area, let ⟨ws, a, b, c, d⟩ := s.words; ⟨ws, a, b, c, fun x y hx hy => (d x y hx hy).trans (e x y hx hy)⟩⟩
theorem src_bm {R : List As} {v : V} {w h : Nat} {p : Nat → Nat → Bool} (hd : 1 ≤ w ∧ 1 ≤ h ∧ w * h ≤ 1048576) (hm : BmA v w h p ∈ R) : Src R v w h p :=
  ⟨hd.1, hd.2.1, hd.2.2, Wds w h p, fun _ k => k.bmarr hm, Wds_length _ _ _, Wds_lt _ _ _, fun _ _ hx hy => pixOf_Wds p hx hy⟩
theorem src_o {H0 : Heap} {R : List As} {o : BmO} (k : BmOk H0 o) (mm : BmM o) (hm : Bas H0 ∈ R) : Src R o.v o.wn o.hn o.px :=
  ⟨mm.w1, mm.h1, mm.area, o.ws, fun _ h => k.arr.same (h.bas hm) fun _ _ h => h, mm.len, k.lt, fun _ _ _ _ => rfl⟩
theorem Src.sz {R : List As} {v : V} {w h : Nat} {p : Nat → Nat → Bool} (s : Src R v w h p) : w ≤ 1048576 ∧ h ≤ 1048576 := by
  have h4 := Nat.le_mul_of_pos_right w (show 0 < h by have := s.h1; omega)
  have h5 := Nat.le_mul_of_pos_left h (show 0 < w by have := s.w1; omega)
  have := s.area
  omega
section
variable {P : Prog} {H : Heap} {R : List As} {Q : Out → Heap → Prop}
theorem getS_ct (hz : HasRz P) {v : V} {w h : Nat} {p : Nat → Nat → Bool} (hs : Hs H R) (sr : Src R v w h p) {x y : Int} (hQ : ∀ H', Hs H' R → Q (.ret (.int .i64 (getV w h p x y : Nat))) H') :
    Call P 78 [.agg [.int .i64 w, .int .i64 h, v], .int .i64 x, .int .i64 y] H Q := by
  obtain ⟨ws, a, b, c, d⟩ := sr.words
  refine getR_ct hz hs (a H hs) b c ⟨sr.w1, sr.sz.1, wds_le sr.area sr.w1⟩ fun H' h' _ => ?_
  have e : getV w h (pixOf w ws) x y = getV w h p x y := by
    unfold getV
    by_cases k : 0 ≤ x ∧ x < w ∧ 0 ≤ y ∧ y < h
    · rw [if_pos k, if_pos k, d _ _ (by omega) (by omega)]
    · rw [if_neg k, if_neg k]
  rw [e]; exact hQ H' h'
theorem getV_in {w h : Nat} {p : Nat → Nat → Bool} {x y : Int} (xn yn : Nat) (hx : x = xn) (hy : y = yn) (h1 : xn < w) (h2 : yn < h) : getV w h p x y = (p xn yn).toNat := by
  subst hx hy; unfold getV; rw [if_pos (by omega), Int.toNat_natCast, Int.toNat_natCast]
theorem bit1 (b : Bool) : decide (((b.toNat : Nat) : Int) = 1) = b := by cases b <;> rfl

theorem mirrorB_ct (hp : HasRef2 P) (hz : HasRz P) {v : V} {w h : Nat} {p : Nat → Nat → Bool} (hs : Hs H R) (sr : Src R v w h p)
    (hQ : ∀ v' H', Hs H' (BmA v' w h (fun i j => p (w - 1 - i) j) :: R) → Q (.ret (.agg [.int .i64 w, .int .i64 h, v'])) H') : Call P 92 [.agg [.int .i64 w, .int .i64 h, v]] H Q := by
  have z4 := sr.sz
  have z5 := sr.w1
  have z6 := sr.h1
  have z7 : 1 ≤ w ∧ 1 ≤ h ∧ w * h ≤ 1048576 := ⟨by omega, by omega, by have := sr.area; first | exact this | (rw [Nat.mul_comm]; exact this)⟩
  refine call_of hp.h_burinref2_Mirror rfl ?_
  have h1 := (hs.alloc (l := [.int .i64 w, .int .i64 h, v])).alloc (l := [.int .i64 0, .int .i64 0, .sl none 0 0 0])
  rw [next_new] at h1
  have hc := h1.p1.cel
  simp -implicitDefEqProofs -dsimp (disch := omega) only [go_sem, dec_t, dec_f, rd_s hc]
  generalize (H.new _).new _ = H1 at *
  generalize H.next + 1 = b2 at *
  generalize H.next = b at *
  refine white_ct hz h1 z7 fun v' H2 h2 _ => ?_
  obtain ⟨vb, kv⟩ := bmV h2
  have h3 := h2.alloc (l := [.int .i64 w, .int .i64 h, v'])
  rw [kv.val] at h3 ⊢
  simp -implicitDefEqProofs -dsimp (disch := omega) only [go_sem, dec_t, dec_f, ]
  rw [← kv.val] at h3 ⊢
  have hv := kv.val
  clear kv
  generalize H2.new _ = H3 at *
  generalize H2.next = b3 at *
  refine loop_cnt h (fun y => ⟨[(1, .ptr (some (b, 0))), (2, .ptr (some (b2, 0))), (3, .ptr (some (b3, 0))), (4, .int .i64 y)], []⟩) (fun y H => Hs H (Cel b3 [.int .i64 w, .int .i64 h, v'] :: BmA v' w h (pr2 (fun _ _ => false) (fun i j => p (w - 1 - i) j) 0 0 0 w 0 y 0) :: Cel b2 [.int .i64 0, .int .i64 0, .sl none 0 0 0] :: Cel b [.int .i64 w, .int .i64 h, v] :: R))
    (fun y H4 K hy h4 hn hx hr => ?_) 0 H3 (by omega) (h3.p1.bmc fun i j _ _ => by rw [pr2_start]).p1
  have c1 := h4.celm (b := b) (l := [.int .i64 w, .int .i64 h, v]) (by simp)
  by_cases he : y < h
  · simp -implicitDefEqProofs -dsimp (disch := omega) only [go_sem, dec_t, dec_f, burinref2_Mirror_l0, rd_s c1]
    refine loop_cnt w (fun x => ⟨[(1, .ptr (some (b, 0))), (2, .ptr (some (b2, 0))), (3, .ptr (some (b3, 0))), (4, .int .i64 y), (5, .int .i64 x)], []⟩) (fun x H => Hs H (Cel b3 [.int .i64 w, .int .i64 h, v'] :: BmA v' w h (pr2 (fun _ _ => false) (fun i j => p (w - 1 - i) j) 0 0 0 w 0 y x) :: Cel b2 [.int .i64 0, .int .i64 0, .sl none 0 0 0] :: Cel b [.int .i64 w, .int .i64 h, v] :: R))
      (fun x H5 K2 hxx h5 hn2 hx2 hr2 => ?_) 0 H4 (by omega) h4
    have c1 := h5.celm (b := b) (l := [.int .i64 w, .int .i64 h, v]) (by simp)
    have r3 := rd_bm h5 (List.mem_cons_self ..) 3 rfl
    have r1 := rd_bm h5 (b := b) (l := [.int .i64 w, .int .i64 h, v]) (by simp) 3 rfl
    by_cases hc : x < w
    · simp -implicitDefEqProofs -dsimp (disch := omega) only [go_sem, dec_t, dec_f, burinref2_Mirror_l1, rd_s c1, r3, r1, w64]
      refine getS_ct hz h5 (sr.cons.cons.cons.cons) fun H6 h6 => ?_
      rw [getV_in (w - 1 - x) (y) (by omega) (by omega) (by omega) (by omega)]
      have r3 := rd_bm h6 (List.mem_cons_self ..) 3 rfl
      refine aft_intro (t := tag _) (by simp [rechecks, recheck, fresh, Fr.get, Fr.put, look, step, opd, r3]) ?_
      simp -implicitDefEqProofs -dsimp (disch := omega) only [go_sem, dec_t, dec_f, ]
      refine putR_ct hz h6.p1 hc he fun H7 h7 => ?_
      rw [bit1] at h7
      simp -implicitDefEqProofs -dsimp (disch := omega) only [go_sem, dec_t, dec_f, w64, cadd1]
      exact hn2 hc H7 (h7.bmc fun i j _ _ => pr2_step (by omega) (by omega) (by omega) hc (by omega) rfl i j).p1
    · simp -implicitDefEqProofs -dsimp (disch := omega) only [go_sem, dec_t, dec_f, burinref2_Mirror_l1, rd_s c1]
      rw [hx2]
      simp -implicitDefEqProofs -dsimp (disch := omega) only [go_sem, dec_t, dec_f, w64, cadd1]
      refine hn he H5 (h5.p1.bmc fun i j _ _ => ?_).p1
      rw [show x = max 0 w by omega]; exact pr2_row i j
  · simp -implicitDefEqProofs -dsimp (disch := omega) only [go_sem, dec_t, dec_f, burinref2_Mirror_l0, rd_s c1]
    rw [hx]
    have r3 := rd_bm h4 (List.mem_cons_self ..) 3 rfl
    obtain ⟨H5, e5, h5⟩ : ∃ H5, wr H4 b2 0 [.int .i64 w, .int .i64 h, v'] = some H5 ∧ Hs H5 (Cel b2 [.int .i64 w, .int .i64 h, v'] :: BmA v' w h (pr2 (fun _ _ => false) (fun i j => p (w - 1 - i) j) 0 0 0 w 0 y 0) :: Cel b [.int .i64 w, .int .i64 h, v] :: R) := by
      refine ⟨_, ?_, (h4.tail.p1.put (l' := [.int .i64 w, .int .i64 h, v']))⟩
      rw [wr_s (h4.celm (b := b2) (l := [.int .i64 0, .int .i64 0, .sl none 0 0 0]) (by simp)), hv]; rfl
    have r2 := rd_bm h5 (List.mem_cons_self ..) 3 rfl
    simp -implicitDefEqProofs -dsimp (disch := omega) only [go_sem, dec_t, dec_f, r3, e5, r2]
    refine hQ v' H5 ((h5.tail).bmc fun i j hi hj => ?_).tail2
    rw [show y = max 0 h by omega, pr2_end, if_pos (by omega)]
theorem turnB_ct (hp : HasRef2 P) (hz : HasRz P) {v : V} {w h : Nat} {p : Nat → Nat → Bool} (hs : Hs H R) (sr : Src R v w h p)
    (hQ : ∀ v' H', Hs H' (BmA v' h w (fun i j => p j (h - 1 - i)) :: R) → Q (.ret (.agg [.int .i64 h, .int .i64 w, v'])) H') : Call P 93 [.agg [.int .i64 w, .int .i64 h, v]] H Q := by
  have z4 := sr.sz
  have z5 := sr.w1
  have z6 := sr.h1
  have z7 : 1 ≤ h ∧ 1 ≤ w ∧ h * w ≤ 1048576 := ⟨by omega, by omega, by have := sr.area; first | exact this | (rw [Nat.mul_comm]; exact this)⟩
  refine call_of hp.h_burinref2_Turn rfl ?_
  have h1 := (hs.alloc (l := [.int .i64 w, .int .i64 h, v])).alloc (l := [.int .i64 0, .int .i64 0, .sl none 0 0 0])
  rw [next_new] at h1
  have hc := h1.p1.cel
  simp -implicitDefEqProofs -dsimp (disch := omega) only [go_sem, dec_t, dec_f, rd_s hc]
  generalize (H.new _).new _ = H1 at *
  generalize H.next + 1 = b2 at *
  generalize H.next = b at *
  refine white_ct hz h1 z7 fun v' H2 h2 _ => ?_
  obtain ⟨vb, kv⟩ := bmV h2
  have h3 := h2.alloc (l := [.int .i64 h, .int .i64 w, v'])
  rw [kv.val] at h3 ⊢
  simp -implicitDefEqProofs -dsimp (disch := omega) only [go_sem, dec_t, dec_f, ]
  rw [← kv.val] at h3 ⊢
  have hv := kv.val
  clear kv
  generalize H2.new _ = H3 at *
  generalize H2.next = b3 at *
  refine loop_cnt w (fun y => ⟨[(1, .ptr (some (b, 0))), (2, .ptr (some (b2, 0))), (3, .ptr (some (b3, 0))), (4, .int .i64 y)], []⟩) (fun y H => Hs H (Cel b3 [.int .i64 h, .int .i64 w, v'] :: BmA v' h w (pr2 (fun _ _ => false) (fun i j => p j (h - 1 - i)) 0 0 0 h 0 y 0) :: Cel b2 [.int .i64 0, .int .i64 0, .sl none 0 0 0] :: Cel b [.int .i64 w, .int .i64 h, v] :: R))
    (fun y H4 K hy h4 hn hx hr => ?_) 0 H3 (by omega) (h3.p1.bmc fun i j _ _ => by rw [pr2_start]).p1
  have c1 := h4.celm (b := b) (l := [.int .i64 w, .int .i64 h, v]) (by simp)
  by_cases he : y < w
  · simp -implicitDefEqProofs -dsimp (disch := omega) only [go_sem, dec_t, dec_f, burinref2_Turn_l0, rd_s c1]
    refine loop_cnt h (fun x => ⟨[(1, .ptr (some (b, 0))), (2, .ptr (some (b2, 0))), (3, .ptr (some (b3, 0))), (4, .int .i64 y), (5, .int .i64 x)], []⟩) (fun x H => Hs H (Cel b3 [.int .i64 h, .int .i64 w, v'] :: BmA v' h w (pr2 (fun _ _ => false) (fun i j => p j (h - 1 - i)) 0 0 0 h 0 y x) :: Cel b2 [.int .i64 0, .int .i64 0, .sl none 0 0 0] :: Cel b [.int .i64 w, .int .i64 h, v] :: R))
      (fun x H5 K2 hxx h5 hn2 hx2 hr2 => ?_) 0 H4 (by omega) h4
    have c1 := h5.celm (b := b) (l := [.int .i64 w, .int .i64 h, v]) (by simp)
    have r3 := rd_bm h5 (List.mem_cons_self ..) 3 rfl
    have r1 := rd_bm h5 (b := b) (l := [.int .i64 w, .int .i64 h, v]) (by simp) 3 rfl
    by_cases hc : x < h
    · simp -implicitDefEqProofs -dsimp (disch := omega) only [go_sem, dec_t, dec_f, burinref2_Turn_l1, rd_s c1, r3, r1, w64]
      refine getS_ct hz h5 (sr.cons.cons.cons.cons) fun H6 h6 => ?_
      rw [getV_in (y) (h - 1 - x) (by omega) (by omega) (by omega) (by omega)]
      have r3 := rd_bm h6 (List.mem_cons_self ..) 3 rfl
      refine aft_intro (t := tag _) (by simp [rechecks, recheck, fresh, Fr.get, Fr.put, look, step, opd, r3]) ?_
      simp -implicitDefEqProofs -dsimp (disch := omega) only [go_sem, dec_t, dec_f, ]
      refine putR_ct hz h6.p1 hc he fun H7 h7 => ?_
      rw [bit1] at h7
      simp -implicitDefEqProofs -dsimp (disch := omega) only [go_sem, dec_t, dec_f, w64, cadd1]
      exact hn2 hc H7 (h7.bmc fun i j _ _ => pr2_step (by omega) (by omega) (by omega) hc (by omega) rfl i j).p1
    · simp -implicitDefEqProofs -dsimp (disch := omega) only [go_sem, dec_t, dec_f, burinref2_Turn_l1, rd_s c1]
      rw [hx2]
      simp -implicitDefEqProofs -dsimp (disch := omega) only [go_sem, dec_t, dec_f, w64, cadd1]
      refine hn he H5 (h5.p1.bmc fun i j _ _ => ?_).p1
      rw [show x = max 0 h by omega]; exact pr2_row i j
  · simp -implicitDefEqProofs -dsimp (disch := omega) only [go_sem, dec_t, dec_f, burinref2_Turn_l0, rd_s c1]
    rw [hx]
    have r3 := rd_bm h4 (List.mem_cons_self ..) 3 rfl
    obtain ⟨H5, e5, h5⟩ : ∃ H5, wr H4 b2 0 [.int .i64 h, .int .i64 w, v'] = some H5 ∧ Hs H5 (Cel b2 [.int .i64 h, .int .i64 w, v'] :: BmA v' h w (pr2 (fun _ _ => false) (fun i j => p j (h - 1 - i)) 0 0 0 h 0 y 0) :: Cel b [.int .i64 w, .int .i64 h, v] :: R) := by
      refine ⟨_, ?_, (h4.tail.p1.put (l' := [.int .i64 h, .int .i64 w, v']))⟩
      rw [wr_s (h4.celm (b := b2) (l := [.int .i64 0, .int .i64 0, .sl none 0 0 0]) (by simp)), hv]; rfl
    have r2 := rd_bm h5 (List.mem_cons_self ..) 3 rfl
    simp -implicitDefEqProofs -dsimp (disch := omega) only [go_sem, dec_t, dec_f, r3, e5, r2]
    refine hQ v' H5 ((h5.tail).bmc fun i j hi hj => ?_).tail2
    rw [show y = max 0 w by omega, pr2_end, if_pos (by omega)]
end
end Go.Ab
/- The reference's Invert, Crop, Blit. Conditions: none. -/
namespace Go.Ab
section
variable {P : Prog} {H : Heap} {R : List As} {Q : Out → Heap → Prop}
theorem bmSz0 {H : Heap} {v : V} {w h : Nat} {p : Nat → Nat → Bool} {R : List As} (hs : Hs H (BmA v w h p :: R)) : 1 ≤ w ∧ 1 ≤ h ∧ w * h ≤ 1048576 := ⟨(bmSz hs).1, (bmSz hs).2.1, (bmSz hs).2.2.1⟩
theorem invB_ct (hp : HasRef2 P) (hz : HasRz P) {v : V} {w h : Nat} {p : Nat → Nat → Bool} (hs : Hs H (BmA v w h p :: R))
    (hQ : ∀ H', Hs H' (BmA v w h (fun i j => !p i j) :: R) → Q (.ret (.tup [])) H') : Call P 94 [.agg [.int .i64 w, .int .i64 h, v]] H Q := by
  have z := bmSz hs
  refine call_of hp.h_burinref2_Invert rfl ?_
  have h1 := hs.alloc (l := [.int .i64 w, .int .i64 h, v])
  simp -implicitDefEqProofs -dsimp (disch := omega) only [go_sem, dec_t, dec_f, ]
  generalize H.new _ = H1 at *
  generalize H.next = b at *
  refine loop_cnt h (fun y => ⟨[(1, .ptr (some (b, 0))), (2, .int .i64 y)], []⟩) (fun y H => Hs H (BmA v w h (pr2 p (fun i j => !p i j) 0 0 0 w 0 y 0) :: Cel b [.int .i64 w, .int .i64 h, v] :: R)) (fun y H4 K hy h4 hn hx hr => ?_) 0 H1 (by omega) (h1.p1.bmc fun i j _ _ => by rw [pr2_start])
  have c1 := h4.p1.cel
  by_cases he : y < h
  · simp -implicitDefEqProofs -dsimp (disch := omega) only [go_sem, dec_t, dec_f, burinref2_Invert_l0, rd_s c1]
    refine loop_cnt w (fun x => ⟨[(1, .ptr (some (b, 0))), (2, .int .i64 y), (3, .int .i64 x)], []⟩) (fun x H => Hs H (BmA v w h (pr2 p (fun i j => !p i j) 0 0 0 w 0 y x) :: Cel b [.int .i64 w, .int .i64 h, v] :: R)) (fun x H5 K2 hxx h5 hn2 hx2 hr2 => ?_) 0 H4 (by omega) h4
    have c1 := h5.p1.cel
    have r1 := rd_bm h5 (b := b) (l := [.int .i64 w, .int .i64 h, v]) (by simp) 3 rfl
    by_cases hc : x < w
    · simp -implicitDefEqProofs -dsimp (disch := omega) only [go_sem, dec_t, dec_f, burinref2_Invert_l1, rd_s c1, r1]
      refine getS_ct hz h5 (src_bm (bmSz0 h5) (List.mem_cons_self ..)) fun H6 h6 => ?_
      rw [getV_in x y rfl rfl hc he, pr2_cur (by omega) (by omega)]
      have r3 := rd_bm h6 (b := b) (l := [.int .i64 w, .int .i64 h, v]) (by simp) 3 rfl
      have e1 : 1 - (((p x y).toNat : Nat) : Int) = (((!p x y).toNat : Nat) : Int) := by cases p x y <;> rfl
      have e2 := Bool.toNat_le (!p x y)
      refine aft_intro (t := tag _) (by simp [rechecks, recheck, fresh, Fr.get, Fr.put, look, step, opd, r3]) ?_
      simp -implicitDefEqProofs -dsimp (disch := omega) only [go_sem, dec_t, dec_f, e1, w64]
      refine putR_ct hz h6 hc he fun H7 h7 => ?_
      rw [bit1] at h7
      simp -implicitDefEqProofs -dsimp (disch := omega) only [go_sem, dec_t, dec_f, w64, cadd1]
      exact hn2 hc H7 (h7.bmc fun i j _ _ => pr2_step (by omega) (by omega) (by omega) hc (by omega) rfl i j)
    · simp -implicitDefEqProofs -dsimp (disch := omega) only [go_sem, dec_t, dec_f, burinref2_Invert_l1, rd_s c1]
      rw [hx2]
      simp -implicitDefEqProofs -dsimp (disch := omega) only [go_sem, dec_t, dec_f, w64, cadd1]
      refine hn he H5 (h5.bmc fun i j _ _ => ?_)
      rw [show x = max 0 w by omega]; exact pr2_row i j
  · simp -implicitDefEqProofs -dsimp (disch := omega) only [go_sem, dec_t, dec_f, burinref2_Invert_l0, rd_s c1]
    rw [hx]
    simp -implicitDefEqProofs -dsimp (disch := omega) only [go_sem, dec_t, dec_f, ]
    refine hQ H4 ((h4.tail2).bmc fun i j hi hj => ?_)
    rw [show y = max 0 h by omega, pr2_end, if_pos (by omega)]

theorem greater_ct (hp : HasRef2 P) {a b : Nat} (hQ : Q (.ret (.int .i64 (max a b : Nat))) H) : Call P 88 [.int .i64 a, .int .i64 b] H Q := by
  refine call_of hp.h_burinref2_greater rfl ?_
  by_cases c : b < a
  · simp -implicitDefEqProofs -dsimp (disch := omega) only [go_sem, dec_t, dec_f, ]; rw [show a = max a b by omega]; exact hQ
  · simp -implicitDefEqProofs -dsimp (disch := omega) only [go_sem, dec_t, dec_f, ]; rw [show b = max a b by omega]; exact hQ
theorem lesser_ct (hp : HasRef2 P) {a b : Nat} (hQ : Q (.ret (.int .i64 (min a b : Nat))) H) : Call P 89 [.int .i64 a, .int .i64 b] H Q := by
  refine call_of hp.h_burinref2_lesser rfl ?_
  by_cases c : a < b
  · simp -implicitDefEqProofs -dsimp (disch := omega) only [go_sem, dec_t, dec_f, ]; rw [show a = min a b by omega]; exact hQ
  · simp -implicitDefEqProofs -dsimp (disch := omega) only [go_sem, dec_t, dec_f, ]; rw [show b = min a b by omega]; exact hQ
def BtF (sx sy dx dy op b9 b19 a b c e g m j : Int) (ex : List (Nat × V)) : Fr := ⟨(2, .int .i64 sx) :: (3, .int .i64 sy) :: (6, .int .i64 dx) :: (7, .int .i64 dy) :: (8, .int .i64 op) :: (9, .ptr (some (b9.toNat, 0))) :: (19, .ptr (some (b19.toNat, 0))) ::
  (20, .int .i64 a) :: (21, .int .i64 b) :: (22, .int .i64 c) :: (23, .int .i64 e) :: (25, .int .i64 g) :: (27, .int .i64 m) :: (28, .int .i64 j) :: ex, []⟩
theorem blitB_loop (hp : HasRef2 P) (hz : HasRz P) {T : List As} {v sv : V} {w h sw sh b9 b19 a b c e d g m op : Nat} {p q : Nat → Nat → Bool} {sx sy dx dy : Int} (hs : Hs H (BmA v w h p :: T)) (m9 : Cel b9 [.int .i64 w, .int .i64 h, v] ∈ T) (m19 : Cel b19 [.int .i64 sw, .int .i64 sh, sv] ∈ T)
    (sr : Src T sv sw sh q) (ho : op < 5)
    (ka : ∀ i : Int, max a c ≤ i ∧ i < min b e → (0 ≤ dx + i ∧ dx + i < w) ∧ 0 ≤ sx + i ∧ sx + i < sw) (kd : ∀ i : Int, d ≤ i ∧ i < min g m → (0 ≤ dy + i ∧ dy + i < h) ∧ 0 ≤ sy + i ∧ sy + i < sh)
    (kb : (a : Int) ≤ 9223372036854775807 ∧ (b : Int) ≤ 9223372036854775807 ∧ (c : Int) ≤ 9223372036854775807 ∧ (e : Int) ≤ 9223372036854775807 ∧ (d : Int) ≤ 9223372036854775807 ∧ (g : Int) ≤ 9223372036854775807 ∧ (m : Int) ≤ 9223372036854775807) {Qp : Post}
    (hQ : ∀ n ex H', Hs H' (BmA v w h (fun i j => if (((max a c : Nat) : Int) ≤ i - dx ∧ (i : Int) - dx < (min b e : Nat)) ∧ (d : Int) ≤ j - dy ∧ (j : Int) - dy < (min g m : Nat) then opB op (p i j) (q (sx + (i - dx)).toNat (sy + (j - dy)).toNat) else p i j) :: T) →
      Qp (.exit 0) (BtF sx sy dx dy op b9 b19 a b c e g m n ex) H') {s t} :
    loopL (Call P) [2, 3, 6, 7, 8, 9, 19, 20, 21, 22, 23, 25, 27, 28] burinref2_Blit_l0 Qp s t (BtF sx sy dx dy op b9 b19 a b c e g m d []) H := by
  obtain ⟨z1, z2, z3, z4, z5⟩ := bmSz hs
  have z6 := sr.sz
  obtain ⟨f, hf⟩ : ∃ f : Nat → Nat → Bool, (fun (i j : Nat) => opB op (p i j) (q (sx + (i - dx)).toNat (sy + (j - dy)).toNat)) = f := ⟨_, rfl⟩
  refine loop_cnt (max d (min g m)) (fun jj => BtF sx sy dx dy op b9 b19 a b c e g m jj []) (fun jj H => d ≤ jj ∧ Hs H (BmA v w h (pr2 p f dx dy (max a c) (min b e) d jj (max a c)) :: T)) (fun jj H1 K hj ⟨hd, h1⟩ hn hx hr => ?_) d H (by omega) ⟨Nat.le_refl _, hs.bmc fun i j _ _ => by rw [pr2_start]⟩
  by_cases he : jj < min g m
  · have y1 := kd jj (by omega)
    obtain ⟨yn, hyn⟩ : ∃ k : Nat, dy + jj = k := ⟨(dy + jj).toNat, by omega⟩
    obtain ⟨ys, hys⟩ : ∃ k : Nat, sy + jj = k := ⟨(sy + jj).toNat, by omega⟩
    simp -implicitDefEqProofs -dsimp (disch := omega) only [go_sem, dec_t, dec_f, burinref2_Blit_l0, BtF]
    refine lesser_ct hp ?_
    simp -implicitDefEqProofs -dsimp (disch := omega) only [go_sem, dec_t, dec_f, ]
    refine greater_ct hp ?_
    simp -implicitDefEqProofs -dsimp (disch := omega) only [go_sem, dec_t, dec_f, ]
    refine loop_cnt (max (max a c) (min b e)) (fun ii => BtF sx sy dx dy op b9 b19 a b c e g m jj [(29, .int .i64 ii)]) (fun ii H => max a c ≤ ii ∧ Hs H (BmA v w h (pr2 p f dx dy (max a c) (min b e) d jj ii) :: T)) (fun ii H2 K2 hi ⟨ha, h2⟩ hn2 hx2 hr2 => ?_) (max a c) H1 (by omega) ⟨Nat.le_refl _, h1⟩
    by_cases hc : ii < min b e
    · have x1 := ka ii (by omega)
      obtain ⟨xn, hxn⟩ : ∃ k : Nat, dx + ii = k := ⟨(dx + ii).toNat, by omega⟩
      obtain ⟨xs, hxs⟩ : ∃ k : Nat, sx + ii = k := ⟨(sx + ii).toNat, by omega⟩
      have r9 := rd_bm h2 (List.mem_cons_of_mem _ m9) 3 rfl
      have r19 := rd_bm h2 (List.mem_cons_of_mem _ m19) 3 rfl
      simp -implicitDefEqProofs -dsimp (disch := omega) only [go_sem, dec_t, dec_f, burinref2_Blit_l1, BtF]
      refine lesser_ct hp ?_
      simp -implicitDefEqProofs -dsimp (disch := omega) only [go_sem, dec_t, dec_f, Int.toNat_natCast, r9, r19, w64, hxn, hyn, hxs, hys]
      refine getS_ct hz h2 (src_bm (bmSz0 h2) (List.mem_cons_self ..)) fun H3 h3 => ?_
      rw [getV_in xn yn rfl rfl (by omega) (by omega), pr2_cur hxn hyn]
      have r9 := rd_bm h3 (List.mem_cons_of_mem _ m9) 3 rfl
      have r19 := rd_bm h3 (List.mem_cons_of_mem _ m19) 3 rfl
      refine aft_intro (t := tag _) (by simp [rechecks, recheck, fresh, Fr.get, Fr.put, look, step, opd, r9, r19]) ?_
      simp -implicitDefEqProofs -dsimp (disch := omega) only [go_sem, dec_t, dec_f, ]
      refine getS_ct hz h3 sr.cons fun H4 h4 => ?_
      rw [getV_in xs ys rfl rfl (by omega) (by omega)]
      have r9 := rd_bm h4 (List.mem_cons_of_mem _ m9) 3 rfl
      refine aft_intro (t := tag _) (by simp [rechecks, recheck, fresh, Fr.get, Fr.put, look, step, opd, r9]) ?_
      simp -implicitDefEqProofs -dsimp (disch := omega) only [go_sem, dec_t, dec_f, ]
      refine do_ct hz ho ?_
      refine aft_intro (t := tag _) (by simp [rechecks, recheck, fresh, Fr.get, Fr.put, look, step, opd, r9]) ?_
      simp -implicitDefEqProofs -dsimp (disch := omega) only [go_sem, dec_t, dec_f, ]
      refine putR_ct hz h4 (by omega) (by omega) fun H5 h5 => ?_
      rw [bit1] at h5
      simp -implicitDefEqProofs -dsimp (disch := omega) only [go_sem, dec_t, dec_f, w64, cadd1]
      refine hn2 (by omega) H5 ⟨by omega, h5.bmc fun i j _ _ => pr2_step hxn hyn ha hc hd ?_ i j⟩
      rw [← hf]
      dsimp only
      rw [show sx + ((xn : Int) - dx) = xs by omega, show sy + ((yn : Int) - dy) = ys by omega, Int.toNat_natCast, Int.toNat_natCast]
    · simp -implicitDefEqProofs -dsimp (disch := omega) only [go_sem, dec_t, dec_f, burinref2_Blit_l1, BtF]
      refine lesser_ct hp ?_
      simp -implicitDefEqProofs -dsimp (disch := omega) only [go_sem, dec_t, dec_f, ]
      rw [hx2]
      simp -implicitDefEqProofs -dsimp (disch := omega) only [go_sem, dec_t, dec_f, w64, cadd1]
      refine hn (by omega) H2 ⟨by omega, h2.bmc fun i j _ _ => ?_⟩
      rw [show ii = max (max a c) (min b e) by omega]; exact pr2_row i j
  · simp -implicitDefEqProofs -dsimp (disch := omega) only [go_sem, dec_t, dec_f, burinref2_Blit_l0, BtF]
    refine lesser_ct hp ?_
    simp -implicitDefEqProofs -dsimp (disch := omega) only [go_sem, dec_t, dec_f, ]
    rw [hx]
    refine hQ jj _ H1 (h1.bmc fun i j _ _ => ?_)
    rw [show jj = max d (min g m) by omega, pr2_end, ← hf]
theorem blitB_ct (hp : HasRef2 P) (hz : HasRz P) {v sv : V} {w h sw sh : Nat} {p q : Nat → Nat → Bool} (hs : Hs H (BmA v w h p :: R)) (sr : Src (BmA v w h p :: R) sv sw sh q) {sx sy ww hh dx dy op : Int}
    (h1 : i64r sx) (h2 : i64r sy) (h3 : i64r ww) (h4 : i64r hh) (h5 : i64r dx) (h6 : i64r dy)
    (hQ : ∀ H', Hs H' (BmA v w h (if blitR ww hh op = 0 then blitP p q sw sh sx sy ww hh dx dy op.toNat else p) :: R) → Q (.ret (.int .i64 (blitR ww hh op))) H') :
    Call P 90 [.agg [.int .i64 w, .int .i64 h, v], .agg [.int .i64 sw, .int .i64 sh, sv], .int .i64 sx, .int .i64 sy, .int .i64 ww, .int .i64 hh, .int .i64 dx, .int .i64 dy, .int .i64 op] H Q := by
  obtain ⟨z1, z2, z3, z4, z5⟩ := bmSz hs
  have z6 := sr.sz
  have z7 := sr.w1
  have z8 := sr.h1
  refine call_of hp.h_burinref2_Blit rfl ?_
  have g1 := (hs.alloc (l := [.int .i64 w, .int .i64 h, v])).alloc (l := [.int .i64 sw, .int .i64 sh, sv])
  rw [next_new] at g1
  have u3 := h3; have u4 := h4
  unfold i64r at u3 u4
  by_cases c1 : ww < 0 ∨ hh < 0
  · rw [show blitR ww hh op = 24 by unfold blitR; rw [if_pos c1]] at hQ
    rcases (show ww < 0 ∨ (0 ≤ ww ∧ hh < 0) by omega) with d | d <;>
    · simp -implicitDefEqProofs -dsimp (disch := omega) only [go_sem, dec_t, dec_f, ]; exact hQ _ g1.tail.tail
  by_cases c2 : op < 0 ∨ 4 < op
  · rw [show blitR ww hh op = 25 by unfold blitR; rw [if_neg c1, if_pos c2]] at hQ
    rcases (show op < 0 ∨ (0 ≤ op ∧ 4 < op) by omega) with d | d <;>
    · simp -implicitDefEqProofs -dsimp (disch := omega) only [go_sem, dec_t, dec_f, ]; exact hQ _ g1.tail.tail
  rw [show blitR ww hh op = 0 by unfold blitR; rw [if_neg c1, if_neg c2], if_pos rfl] at hQ
  obtain ⟨nw, rfl⟩ : ∃ k : Nat, ww = k := ⟨ww.toNat, by omega⟩
  obtain ⟨nh, rfl⟩ : ∃ k : Nat, hh = k := ⟨hh.toNat, by omega⟩
  obtain ⟨on, rfl⟩ : ∃ k : Nat, op = k := ⟨op.toNat, by omega⟩
  have r10 := rd_bm g1 (List.mem_cons_self ..) 3 rfl
  simp -implicitDefEqProofs -dsimp (disch := omega) only [go_sem, dec_t, dec_f, r10]
  generalize (H.new _).new _ = H1 at *
  generalize H.next + 1 = b10 at *
  generalize H.next = b9 at *
  obtain ⟨ws, wa, wb, wc, wd⟩ := sr.words
  have hwl := wds_le sr.area sr.w1
  refine copyR_ct hz g1 (wa H1 g1.tail.tail) (by omega) fun v' H2 g2 _ => ?_
  obtain ⟨a3, c3, e3, hv3⟩ := g2.own.arr.shape
  have g3 := g2.alloc (l := [.int .i64 sw, .int .i64 sh, v'])
  rw [hv3] at g3 ⊢
  have c10 := rd_s (g3.celm (b := b10) (l := [.int .i64 sw, .int .i64 sh, sv]) (by simp)) 0
  simp -implicitDefEqProofs -dsimp (disch := omega) only [go_sem, dec_t, dec_f, c10]
  rw [← hv3] at g3 ⊢
  generalize H2.new _ = H3 at *
  generalize H2.next = b19 at *
  have src : Src (Cel b19 [.int .i64 sw, .int .i64 sh, v'] :: Lst v' 1 ws.length (u64s ws) :: Cel b10 [.int .i64 sw, .int .i64 sh, sv] :: Cel b9 [.int .i64 w, .int .i64 h, v] :: R) v' sw sh q :=
    ⟨sr.w1, sr.h1, sr.area, ws, fun H' h' => (h'.ownm (e := 1) (n := ws.length) (l := u64s ws) (by simp)).arr, wb, wc, wd⟩
  have g4 := Hs.foc 4 g3 rfl
  clear hv3 g3 g2
  have cc := fun {H'} (h' : Hs H' (BmA v w h p :: Cel b19 [.int .i64 sw, .int .i64 sh, v'] :: Lst v' 1 ws.length (u64s ws) :: Cel b10 [.int .i64 sw, .int .i64 sh, sv] :: Cel b9 [.int .i64 w, .int .i64 h, v] :: R)) => (⟨rd_s (h'.celm (b := b10) (l := [.int .i64 sw, .int .i64 sh, sv]) (by simp)), rd_s (h'.celm (b := b9) (l := [.int .i64 w, .int .i64 h, v]) (by simp))⟩ : (∀ o, rd H' none b10 o = _) ∧ (∀ o, rd H' none b9 o = _))
  have c9 := (cc g4).2
  have c10 := (cc g4).1
  refine span_ct hp h1 (by omega) ⟨z7, z6.1⟩ fun a b k1 k2 => ?_
  simp -implicitDefEqProofs -dsimp (disch := omega) only [go_sem, dec_t, dec_f, c9]
  refine span_ct hp h5 (by omega) ⟨z1, z4⟩ fun c e k3 k4 => ?_
  simp -implicitDefEqProofs -dsimp (disch := omega) only [go_sem, dec_t, dec_f, c10]
  refine span_ct hp h2 (by omega) ⟨z8, z6.2⟩ fun f g k5 k6 => ?_
  simp -implicitDefEqProofs -dsimp (disch := omega) only [go_sem, dec_t, dec_f, c9]
  refine span_ct hp h6 (by omega) ⟨z2, z5⟩ fun k m k7 k8 => ?_
  simp -implicitDefEqProofs -dsimp (disch := omega) only [go_sem, dec_t, dec_f, ]
  refine greater_ct hp ?_
  simp -implicitDefEqProofs -dsimp (disch := omega) only [go_sem, dec_t, dec_f, ]
  refine blitB_loop hp hz (T := [Cel b19 [.int .i64 sw, .int .i64 sh, v'], Lst v' 1 ws.length (u64s ws), Cel b10 [.int .i64 sw, .int .i64 sh, sv], Cel b9 [.int .i64 w, .int .i64 h, v]] ++ R) (b9 := b9) (b19 := b19) g4 (by simp) (by simp) src (by omega)
    (fun i hi => by have := (k1 i).1; have := (k3 i).1; omega) (fun i hi => by have := (k5 i).1; have := (k7 i).1; omega) (by omega) fun n ex H4 g5 => ?_
  simp -implicitDefEqProofs -dsimp (disch := omega) only [go_sem, dec_t, dec_f, BtF]
  refine hQ H4 ((((g5.tail2.tail2.tail2.tail2)).bmc fun i j hi hj => ?_))
  have := k1 (i - dx)
  have := k3 (i - dx)
  have := k5 (j - dy)
  have := k7 (j - dy)
  unfold blitP
  rw [Int.toNat_natCast]
  by_cases k : (((max a c : Nat) : Int) ≤ i - dx ∧ (i : Int) - dx < (min b e : Nat)) ∧ ((max f k : Nat) : Int) ≤ j - dy ∧ (j : Int) - dy < (min g m : Nat)
  · rw [if_pos k, if_pos (by omega)]
  · rw [if_neg k, if_neg (by omega)]
end
end Go.Ab
/- The reference's Crop. Conditions: none. -/
namespace Go.Ab
/-- A rectangle of a bitmap; white outside. -/
def cropP (p : Nat → Nat → Bool) (w h : Nat) (x y : Int) : Nat → Nat → Bool := fun i j => decide ((0 ≤ x + i ∧ x + i < w) ∧ 0 ≤ y + j ∧ y + j < h) && p (x + i).toNat (y + j).toNat
section
variable {P : Prog} {H : Heap} {R : List As} {Q : Out → Heap → Prop}
theorem getC {p : Nat → Nat → Bool} {w h : Nat} {x y : Int} {i j : Nat} : getV w h p (x + i) (y + j) = (cropP p w h x y i j).toNat := by
  unfold getV cropP
  by_cases c : (0 ≤ x + i ∧ x + i < w) ∧ 0 ≤ y + j ∧ y + j < h
  · rw [if_pos (by omega), decide_eq_true c]; rfl
  · rw [if_neg (by omega), decide_eq_false c]; rfl
def CrpF (x y : Int) (b5 b10 b12 a c e j : Nat) (ex : List (Nat × V)) : Fr := ⟨(1, .int .i64 x) :: (2, .int .i64 y) :: (5, .ptr (some (b5, 0))) :: (10, .ptr (some (b10, 0))) :: (12, .ptr (some (b12, 0))) :: (13, .int .i64 a) :: (14, .int .i64 c) :: (16, .int .i64 e) :: (17, .int .i64 j) :: ex, []⟩
theorem cropB_loop (hz : HasRz P) {T : List As} {v ov : V} {w h ow oh b5 b10 b12 a c e d : Nat} {p : Nat → Nat → Bool} {x y : Int} (hs : Hs H (BmA ov ow oh (fun _ _ => false) :: T)) (m5 : Cel b5 [.int .i64 w, .int .i64 h, v] ∈ T) (m12 : Cel b12 [.int .i64 ow, .int .i64 oh, ov] ∈ T)
    (sr : Src T v w h p)
    (ka : ∀ i : Int, a ≤ i ∧ i < c → 0 ≤ i ∧ i < ow ∧ 0 ≤ x + i ∧ x + i < w) (kd : ∀ i : Int, d ≤ i ∧ i < e → 0 ≤ i ∧ i < oh ∧ 0 ≤ y + i ∧ y + i < h)
    (kb : (a : Int) ≤ 9223372036854775807 ∧ (c : Int) ≤ 9223372036854775807 ∧ (d : Int) ≤ 9223372036854775807 ∧ (e : Int) ≤ 9223372036854775807) {Qp : Post}
    (hQ : ∀ n ex H', Hs H' (BmA ov ow oh (fun i j => if ((a : Int) ≤ i - 0 ∧ (i : Int) - 0 < c) ∧ (d : Int) ≤ j - 0 ∧ (j : Int) - 0 < e then cropP p w h x y i j else false) :: T) → Qp (.exit 0) (CrpF x y b5 b10 b12 a c e n ex) H') {s t} :
    loopL (Call P) [1, 2, 5, 10, 12, 13, 14, 16, 17] burinref2_Crop_l0 Qp s t (CrpF x y b5 b10 b12 a c e d []) H := by
  obtain ⟨z1, z2, z3, z4, z5⟩ := bmSz hs
  have z6 := sr.sz
  refine loop_cnt (max d e) (fun jj => CrpF x y b5 b10 b12 a c e jj []) (fun jj H => d ≤ jj ∧ Hs H (BmA ov ow oh (pr2 (fun _ _ => false) (cropP p w h x y) 0 0 a c d jj a) :: T)) (fun jj H1 K hj ⟨hd, h1⟩ hn hx hr => ?_) d H (by omega) ⟨Nat.le_refl _, hs.bmc fun i j _ _ => by rw [pr2_start]⟩
  by_cases he : jj < e
  · have y1 := kd jj (by omega)
    simp -implicitDefEqProofs -dsimp (disch := omega) only [go_sem, dec_t, dec_f, burinref2_Crop_l0, CrpF]
    refine loop_cnt (max a c) (fun ii => CrpF x y b5 b10 b12 a c e jj [(18, .int .i64 ii)]) (fun ii H => a ≤ ii ∧ Hs H (BmA ov ow oh (pr2 (fun _ _ => false) (cropP p w h x y) 0 0 a c d jj ii) :: T)) (fun ii H2 K2 hi ⟨ha, h2⟩ hn2 hx2 hr2 => ?_) a H1 (by omega) ⟨Nat.le_refl _, h1⟩
    by_cases hc : ii < c
    · have x1 := ka ii (by omega)
      have r5 := rd_bm h2 (List.mem_cons_of_mem _ m5) 3 rfl
      have r12 := rd_bm h2 (List.mem_cons_of_mem _ m12) 3 rfl
      simp -implicitDefEqProofs -dsimp (disch := omega) only [go_sem, dec_t, dec_f, burinref2_Crop_l1, CrpF, r5, r12, w64]
      refine getS_ct hz h2 sr.cons fun H3 h3 => ?_
      rw [getC]
      have r12 := rd_bm h3 (List.mem_cons_of_mem _ m12) 3 rfl
      refine aft_intro (t := tag _) (by simp [rechecks, recheck, fresh, Fr.get, Fr.put, look, step, opd, r12]) ?_
      simp -implicitDefEqProofs -dsimp (disch := omega) only [go_sem, dec_t, dec_f, ]
      refine putR_ct hz h3 (by omega) (by omega) fun H5 h5 => ?_
      rw [bit1] at h5
      simp -implicitDefEqProofs -dsimp (disch := omega) only [go_sem, dec_t, dec_f, w64, cadd1]
      exact hn2 (by omega) H5 ⟨by omega, h5.bmc fun i j _ _ => pr2_step (by omega) (by omega) ha hc hd rfl i j⟩
    · simp -implicitDefEqProofs -dsimp (disch := omega) only [go_sem, dec_t, dec_f, burinref2_Crop_l1, CrpF]
      rw [hx2]
      simp -implicitDefEqProofs -dsimp (disch := omega) only [go_sem, dec_t, dec_f, w64, cadd1]
      refine hn (by omega) H2 ⟨by omega, h2.bmc fun i j _ _ => ?_⟩
      rw [show ii = max a c by omega]; exact pr2_row i j
  · simp -implicitDefEqProofs -dsimp (disch := omega) only [go_sem, dec_t, dec_f, burinref2_Crop_l0, CrpF]
    rw [hx]
    refine hQ jj _ H1 (h1.bmc fun i j _ _ => ?_)
    rw [show jj = max d e by omega, pr2_end]
theorem cropB_ct (hp : HasRef2 P) (hz : HasRz P) {v : V} {w h : Nat} {p : Nat → Nat → Bool} (hs : Hs H R) (sr : Src R v w h p) {x y ww hh : Int}
    (h1 : i64r x) (h2 : i64r y) (h3 : i64r ww) (h4 : i64r hh)
    (hQ1 : ¬ sizeOk ww hh → ∀ H', Hs H' R → Q (.ret (.tup [.agg [.int .i64 0, .int .i64 0, .sl none 0 0 0], .int .i64 20])) H')
    (hQ2 : sizeOk ww hh → ∀ ov H', Hs H' (BmA ov ww.toNat hh.toNat (cropP p w h x y) :: R) → Q (.ret (.tup [.agg [.int .i64 ww, .int .i64 hh, ov], .int .i64 0])) H') :
    Call P 91 [.agg [.int .i64 w, .int .i64 h, v], .int .i64 x, .int .i64 y, .int .i64 ww, .int .i64 hh] H Q := by
  have z6 := sr.sz
  have z7 := sr.w1
  have z8 := sr.h1
  refine call_of hp.h_burinref2_Crop rfl ?_
  have g1 := (hs.alloc (l := [.int .i64 w, .int .i64 h, v])).alloc (l := [.int .i64 0, .int .i64 0, .sl none 0 0 0])
  rw [next_new] at g1
  simp -implicitDefEqProofs -dsimp (disch := omega) only [go_sem, dec_t, dec_f, ]
  generalize (H.new _).new _ = H1 at *
  generalize H.next + 1 = b10 at *
  generalize H.next = b5 at *
  refine sizeR_ct hz h3 h4 ?_
  by_cases k : sizeOk ww hh
  · rw [decide_eq_true k]
    have hle := sizeOk_le k
    have hQ2 := hQ2 k
    obtain ⟨nw, rfl⟩ : ∃ k : Nat, ww = k := ⟨ww.toNat, by have := k.1; omega⟩
    obtain ⟨nh, rfl⟩ : ∃ k : Nat, hh = k := ⟨hh.toNat, by have := k.2.1; omega⟩
    have hd : 1 ≤ nw ∧ 1 ≤ nh ∧ nw * nh ≤ 1048576 := ⟨by have := k.1; omega, by have := k.2.1; omega, by have := k.2.2; rw [← Int.natCast_mul] at this; omega⟩
    simp -implicitDefEqProofs -dsimp (disch := omega) only [go_sem, dec_t, dec_f, ]
    refine white_ct hz g1 hd fun ov H2 g2 _ => ?_
    obtain ⟨vb, kv⟩ := bmV g2
    have g3 := g2.alloc (l := [.int .i64 nw, .int .i64 nh, ov])
    have hv := kv.val
    rw [hv] at g3 ⊢
    have c5 := rd_s (g3.celm (b := b5) (l := [.int .i64 w, .int .i64 h, v]) (by simp)) 0
    simp -implicitDefEqProofs -dsimp (disch := omega) only [go_sem, dec_t, dec_f, c5]
    rw [← hv] at g3 ⊢
    clear kv
    generalize H2.new _ = H3 at *
    generalize H2.next = b12 at *
    have c5 := rd_s (g3.celm (b := b5) (l := [.int .i64 w, .int .i64 h, v]) (by simp))
    refine span_ct hp h1 (by omega) ⟨z7, z6.1⟩ fun a c k1 k2 => ?_
    simp -implicitDefEqProofs -dsimp (disch := omega) only [go_sem, dec_t, dec_f, c5]
    refine span_ct hp h2 (by omega) ⟨z8, z6.2⟩ fun d e k3 k4 => ?_
    simp -implicitDefEqProofs -dsimp (disch := omega) only [go_sem, dec_t, dec_f, ]
    refine cropB_loop hz (T := [Cel b12 [.int .i64 nw, .int .i64 nh, ov], Cel b10 [.int .i64 0, .int .i64 0, .sl none 0 0 0], Cel b5 [.int .i64 w, .int .i64 h, v]] ++ R) (b5 := b5) (b10 := b10) (b12 := b12) g3.p1 (by simp) (by simp) sr.cons.cons.cons
      (fun i hi => by have := (k1 i).1 hi; omega) (fun i hi => by have := (k3 i).1 hi; omega) (by omega) fun n ex H4 g5 => ?_
    have r12 := rd_bm g5 (b := b12) (l := [.int .i64 nw, .int .i64 nh, ov]) (by simp) 3 rfl
    obtain ⟨H5, e5, g6⟩ : ∃ H5, wr H4 b10 0 [.int .i64 nw, .int .i64 nh, ov] = some H5 ∧ Hs H5 (Cel b10 [.int .i64 nw, .int .i64 nh, ov] :: BmA ov nw nh _ :: Cel b12 [.int .i64 nw, .int .i64 nh, ov] :: Cel b5 [.int .i64 w, .int .i64 h, v] :: R) := by
      refine ⟨_, ?_, (Hs.foc 2 g5 rfl).put (l' := [.int .i64 nw, .int .i64 nh, ov])⟩
      rw [wr_s (g5.celm (b := b10) (l := [.int .i64 0, .int .i64 0, .sl none 0 0 0]) (by simp)), hv]; rfl
    have r10 := rd_bm g6 (List.mem_cons_self ..) 3 rfl
    simp -implicitDefEqProofs -dsimp (disch := omega) only [go_sem, dec_t, dec_f, CrpF, r12, e5, r10]
    refine hQ2 ov H5 ((g6.tail.tail2.tail2).bmc fun i j hi hj => ?_)
    have k1 := k1 i
    have k3 := k3 j
    by_cases q : ((a : Int) ≤ i - 0 ∧ (i : Int) - 0 < c) ∧ (d : Int) ≤ j - 0 ∧ (j : Int) - 0 < e
    · rw [if_pos q]
    · rw [if_neg q]; unfold cropP; rw [decide_eq_false (by omega)]; rfl
  · rw [decide_eq_false k]
    obtain ⟨H5, e5, g6⟩ : ∃ H5, wr H1 b10 0 [.int .i64 0, .int .i64 0, .sl none 0 0 0] = some H5 ∧ Hs H5 (Cel b10 [.int .i64 0, .int .i64 0, .sl none 0 0 0] :: Cel b5 [.int .i64 w, .int .i64 h, v] :: R) := by
      refine ⟨_, ?_, g1.put (l' := [.int .i64 0, .int .i64 0, .sl none 0 0 0])⟩
      rw [wr_s g1.cel]; rfl
    have r10 := rd_bm g6 (List.mem_cons_self ..) 3 rfl
    simp -implicitDefEqProofs -dsimp (disch := omega) only [go_sem, dec_t, dec_f, e5, r10]
    exact hQ1 k H5 g6.tail.tail
end
end Go.Ab
/- LendBitmap and BackBitmap: a bitmap's words in a list with marks behind them. Conditions: none. -/
namespace Go.Ab
theorem over_at (A Z : List V) (z v : V) : over (A ++ z :: Z) A.length [v] = A ++ v :: Z := by
  simp [over, List.take_append, List.drop_append]
theorem over_nil' (l : List V) (o : Nat) : over l o [] = l := by simp [over]
/-- Elements are laid into the room behind a list. -/
theorem Hs.app_in {H : Heap} {B len cap e eb m : Nat} {l M : List V} {y : V} {R : List As} (h : Hs H (Cel B l :: R)) (hy : firsts H e y = some (m, M)) (hm : M.length = m * e) (ho : M.all one = true) (hc : len + m ≤ cap) (hl : cap * e ≤ l.length) :
    ∃ H', app H e eb (.sl (some (B, 0)) len cap e) y = some (.sl (some (B, 0)) (len + m) cap e, H') ∧ Hs H' (Cel B (over l (len * e) M) :: R) := by
  have hce : (len + m) * e ≤ cap * e := Nat.mul_le_mul_right _ hc
  rw [Nat.add_mul] at hce
  simp only [app, hy, Option.isSome_some, Bool.true_and, bne_self_eq_false, Bool.false_eq_true, if_false, ho, if_true]
  rw [if_pos hc]
  cases M with
  | nil => exact ⟨H, by simp, by rw [over_nil']; exact h⟩
  | cons x M =>
    refine ⟨H.put B (.cells (over l (len * e) (x :: M)) true), ?_, h.put⟩
    simp only [List.isEmpty_cons, Bool.false_eq_true, if_false, wr_s h.cel, Nat.zero_add]
    rw [if_pos (by omega), if_pos ho]; rfl
section
variable {P : Prog} {H : Heap} {R : List As} {Q : Out → Heap → Prop}
/-- The lent words. -/
def Lent (B : Nat) (ws : List Nat) : As := Cel B (u64s (ws ++ List.replicate 7 42405))
theorem lent_arr {H : Heap} {B : Nat} {ws : List Nat} {R : List As} (h : Hs H R) (hm : Lent B ws ∈ R) : Arr H (.sl (some (B, 0)) ws.length (ws.length + 7) 1) 1 ws.length (u64s ws) :=
  Or.inr ⟨B, 0, ws.length + 7, _, true, rfl, h.celm hm, by simp [u64s], by simp [u64s], by omega, (h.ofmem hm).celt⟩
theorem lendB_ct (hp : HasKit2 P) (hs : Hs H R) {w h : Int} {v : V} {ws : List Nat} (hv : ∀ H', Hs H' R → Arr H' v 1 ws.length (u64s ws)) (hl : ws.length ≤ 17592186040000)
    (hQ : ∀ B H', Hs H' (Lent B ws :: R) → Q (.ret (.agg [.int .i64 w, .int .i64 h, .sl (some (B, 0)) ws.length (ws.length + 7) 1])) H') : Call P 95 [.agg [.int .i64 w, .int .i64 h, v]] H Q := by
  refine call_of hp.h_burinkit_LendBitmap rfl ?_
  obtain ⟨a, c, e', rfl⟩ := (hv H hs).shape
  have g1 := (hs.alloc (l := [.int .i64 w, .int .i64 h, .sl a ws.length c e'])).alloc (l := [.int .i64 0, .int .i64 0, .sl none 0 0 0])
  rw [next_new] at g1
  have et : ((ws.length : Int) + 7).toNat = ws.length + 7 := by omega
  have c1 := rd_s g1.p1.cel
  have g2 := g1.alloc (l := u64s (List.replicate (ws.length + 7) 0))
  simp only [next_new] at g2
  have c2 := rd_s (g2.celm (b := H.next) (l := [.int .i64 w, .int .i64 h, .sl a ws.length c e']) (by simp))
  simp -implicitDefEqProofs -dsimp (disch := omega) only [go_sem, dec_t, dec_f, c1, w64, et, Int.toNat_zero, reps_u64, c2]
  generalize ((H.new _).new _).new _ = H1 at *
  generalize H.next + 1 + 1 = B at *
  generalize H.next + 1 = b2 at *
  generalize H.next = b1 at *
  clear c1
  obtain ⟨H2, a2, h2⟩ := g2.app_in (len := 0) (cap := ws.length + 7) (eb := 8) (firsts_arr (hv H1 g2.tail.tail.tail)) (by simp [u64s]) (u64s_one ws) (by omega) (by simp [u64s])
  have e2 : over (u64s (List.replicate (ws.length + 7) 0)) (0 * 1) (u64s ws) = u64s (ws ++ List.replicate 0 42405 ++ List.replicate (7 - 0) 0) := by
    simp only [over, u64s, List.length_map, List.map_append, List.map_replicate]
    simp
  rw [e2] at h2
  rw [Nat.zero_add] at a2
  simp -implicitDefEqProofs -dsimp (disch := omega) only [go_sem, dec_t, dec_f, a2]
  refine loop_cnt 7 (fun i => ⟨[(1, .ptr (some (b1, 0))), (2, .ptr (some (b2, 0))), (3, .sl (some (B, 0)) (ws.length + i) (ws.length + 7) 1), (4, .int .i64 i)], []⟩)
    (fun i H => Hs H (Cel B (u64s (ws ++ List.replicate i 42405 ++ List.replicate (7 - i) 0)) :: Cel b2 [.int .i64 0, .int .i64 0, .sl none 0 0 0] :: Cel b1 [.int .i64 w, .int .i64 h, .sl a ws.length c e'] :: R)) (fun i H3 K hi h3 hn hx hr => ?_) 0 H2 (by omega) h2
  by_cases h7 : i < 7
  · have h4 := h3.keep (Same.new (fun _ => False) H3 (.cells [.int .u64 42405] true))
    obtain ⟨H4, a4, h5⟩ := h4.app_in (len := ws.length + i) (cap := ws.length + 7) (eb := 8) (firsts_new1 H3 [.int .u64 42405] 1 1 rfl) rfl rfl (by omega) (by simp [u64s]; omega)
    have e5 : over (u64s (ws ++ List.replicate i 42405 ++ List.replicate (7 - i) 0)) ((ws.length + i) * 1) [.int .u64 42405] = u64s (ws ++ List.replicate (i + 1) 42405 ++ List.replicate (7 - (i + 1)) 0) := by
      have e6 : List.replicate (7 - i) 0 = (0 : Nat) :: List.replicate (7 - (i + 1)) 0 := by rw [← List.replicate_succ]; congr 1; omega
      rw [e6]
      simp only [u64s, List.map_append, List.map_cons, List.replicate_succ', List.append_assoc]
      have := over_at (List.map (fun (n : Nat) => V.int .u64 n) ws ++ List.map (fun (n : Nat) => V.int .u64 n) (List.replicate i 42405)) (List.map (fun (n : Nat) => V.int .u64 n) (List.replicate (7 - (i + 1)) 0)) (.int .u64 (0 : Nat)) (.int .u64 42405)
      simp only [List.length_append, List.length_map, List.length_replicate, List.append_assoc] at this
      rw [Nat.mul_one, this]; rfl
    rw [e5] at h5
    simp -implicitDefEqProofs -dsimp (disch := omega) only [go_sem, dec_t, dec_f, burinkit_LendBitmap_l0, a4, w64, cadd1]
    exact hn h7 H4 h5
  · obtain rfl : i = 7 := by omega
    simp -implicitDefEqProofs -dsimp (disch := omega) only [go_sem, dec_t, dec_f, burinkit_LendBitmap_l0]
    rw [hx]
    have c1 := rd_s (h3.celm (b := b1) (l := [.int .i64 w, .int .i64 h, .sl a ws.length c e']) (by simp))
    obtain ⟨H5, e5, g6⟩ := h3.sto 1 (o := 0) (vs := [.int .i64 w, .int .i64 h, .sl (some (B, 0)) ws.length (ws.length + 7) 1]) rfl (by simp) (by simp [one])
    rw [List.append_assoc, show List.replicate (7 - 7) 0 = ([] : List Nat) from rfl, List.append_nil] at g6
    replace g6 : Hs H5 (Lent B ws :: Cel b2 [.int .i64 w, .int .i64 h, .sl (some (B, 0)) ws.length (ws.length + 7) 1] :: Cel b1 [.int .i64 w, .int .i64 h, .sl a ws.length c e'] :: R) := g6
    have r2 := rd_bm g6 (b := b2) (l := [.int .i64 w, .int .i64 h, .sl (some (B, 0)) ws.length (ws.length + 7) 1]) (by simp) 3 rfl
    simp -implicitDefEqProofs -dsimp (disch := omega) only [go_sem, dec_t, dec_f, c1, Int.toNat_natCast, e5, r2]
    exact hQ B H5 g6.tail2.tail2
theorem backB_ct (hp : HasKit2 P) (hz : HasRz P) {w h w2 h2 : Int} {v : V} {ws : List Nat} {B : Nat} (hs : Hs H (Lent B ws :: R)) (hv : ∀ H', Hs H' R → Arr H' v 1 ws.length (u64s ws)) (hl : ws.length ≤ 17592186040000)
    (hQ : ∀ H', Hs H' R → Q (.ret (.bool (decide (w = w2 ∧ h = h2)))) H') : Call P 96 [.agg [.int .i64 w, .int .i64 h, .sl (some (B, 0)) ws.length (ws.length + 7) 1], .agg [.int .i64 w2, .int .i64 h2, v]] H Q := by
  refine call_of hp.h_burinkit_BackBitmap rfl ?_
  obtain ⟨a, c, e', rfl⟩ := (hv H hs.tail).shape
  have g1 := (hs.alloc (l := [.int .i64 w, .int .i64 h, .sl (some (B, 0)) ws.length (ws.length + 7) 1])).alloc (l := [.int .i64 w2, .int .i64 h2, .sl a ws.length c e'])
  rw [next_new] at g1
  have r1 := rd_bm g1 (List.mem_cons_self ..) 3 rfl
  have r2 := rd_bm g1 (b := H.next) (l := [.int .i64 w, .int .i64 h, .sl (some (B, 0)) ws.length (ws.length + 7) 1]) (by simp) 3 rfl
  simp -implicitDefEqProofs -dsimp (disch := omega) only [go_sem, dec_t, dec_f, r1, r2]
  generalize (H.new _).new _ = H1 at *
  generalize H.next + 1 = b3 at *
  generalize H.next = b2 at *
  refine eqb_ct hz g1 (lent_arr g1 (List.mem_cons_of_mem _ (List.mem_cons_of_mem _ (List.mem_cons_self ..)))) (hv H1 g1.tail.tail.tail) (by omega) fun H2 g2 _ => ?_
  have c3 := rd_s g2.cel
  have c2 := rd_s (g2.celm (b := b2) (l := [.int .i64 w, .int .i64 h, .sl (some (B, 0)) ws.length (ws.length + 7) 1]) (by simp))
  have et : ((ws.length : Int) + 7).toNat = ws.length + 7 := by omega
  rw [show decide (w = w2 ∧ h = h2 ∧ ws = ws) = decide (w = w2 ∧ h = h2) by simp]
  generalize decide (w = w2 ∧ h = h2) = bb at *
  simp -implicitDefEqProofs -dsimp (disch := omega) only [go_sem, dec_t, dec_f, c2, c3, w64, et]
  refine loop_cnt (ws.length + 7) (fun i => ⟨[(5, .bool bb), (6, .sl (some (B, 0)) (ws.length + 7) (ws.length + 7) 1), (7, .int .i64 i)], []⟩) (fun i H => ws.length ≤ i ∧ Hs H (Lent B ws :: R)) (fun i H3 K hi ⟨h0, h3⟩ hn hx hr => ?_) ws.length H2 (by omega) ⟨Nat.le_refl _, g2.tail.tail⟩
  by_cases h7 : i < ws.length + 7
  · have hr : rd H3 none B i = some (.int .u64 42405) := by
      rw [rd_s h3.cel]
      simp only [u64s]
      rw [List.map_append, List.getElem?_append_right (by simp; omega), List.map_replicate, List.getElem?_replicate, if_pos (by simp; omega)]; rfl
    cases bb <;>
    · simp -implicitDefEqProofs -dsimp (disch := omega) only [go_sem, dec_t, dec_f, burinkit_BackBitmap_l1, Int.toNat_natCast, Nat.mul_one, hr, w64, cadd1]
      exact hn h7 H3 ⟨by omega, h3⟩
  · simp -implicitDefEqProofs -dsimp (disch := omega) only [go_sem, dec_t, dec_f, burinkit_BackBitmap_l1]
    rw [hx]
    simp -implicitDefEqProofs -dsimp (disch := omega) only [go_sem, dec_t, dec_f, ]
    refine loop_dec (σ := Nat × List V) (fun x => ws.length + 7 - x.1) (fun x => ⟨[(5, .bool bb), (6, .sl (some (B, 0)) (ws.length + 7) (ws.length + 7) 1), (8, .int .i64 (x.1 : Nat))], []⟩) (fun x H => x.1 ≤ ws.length + 7 ∧ x.2.length = ws.length + 7 ∧ Hs H (Cel B x.2 :: R)) (fun x H4 K2 ⟨k1, k2, h4⟩ hn2 hx2 hr2 => ?_) (0, u64s (ws ++ List.replicate 7 42405)) H3 ⟨by simp, by simp [u64s], h3⟩
    obtain ⟨j, l⟩ := x
    dsimp only at k1 k2 h4 hn2 ⊢
    by_cases h8 : j < ws.length + 7
    · obtain ⟨H5, e5, g5⟩ := h4.sto 0 (o := j) (vs := [.int .u64 1515870810]) rfl (by simp; omega) (by simp [one])
      simp -implicitDefEqProofs -dsimp (disch := omega) only [go_sem, dec_t, dec_f, burinkit_BackBitmap_l0, Int.toNat_natCast, Nat.mul_one, e5, w64, cadd1]
      exact hn2 (j + 1, over l j [.int .u64 1515870810]) H5 (by simp; omega) ⟨by simp; omega, by simp [over]; omega, g5⟩
    · simp -implicitDefEqProofs -dsimp (disch := omega) only [go_sem, dec_t, dec_f, burinkit_BackBitmap_l0]
      rw [hx2]
      simp -implicitDefEqProofs -dsimp (disch := omega) only [go_sem, dec_t, dec_f, ]
      exact hQ H4 h4.tail
end
end Go.Ab
