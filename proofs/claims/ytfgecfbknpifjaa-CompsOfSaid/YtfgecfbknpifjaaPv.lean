/- The reference's Of: from pixel to pixel, piece by piece. Conditions: none. -/
import Derived.Test.YtfgecfbknpifjaaPu
import Derived.Test.YtfgecfbknpifjaaPm
set_option linter.all false
namespace Go.Ab
variable {p : Nat → Nat → Bool} {w h : Nat}
structure Scan (p : Nat → Nat → Bool) (w h n y x : Nat) : Prop where
  at_ : ∀ (i : Nat) (P : PcP), (pcsOf p w h)[i]? = some P → (i < n ↔ (P.y.toNat < y ∨ P.y.toNat = y ∧ fpx p w h i < x))
  le : n ≤ (pcsOf p w h).length
/-- What is left behind n pieces. -/
def lftN (p : Nat → Nat → Bool) (w h n : Nat) : Nat → Nat → Bool := fun a b => p a b && decide (ownN (pcsOf p w h) n a b = 0)
theorem scan_0 : Scan p w h 0 0 0 := ⟨fun _ _ _ => by omega, Nat.zero_le _⟩
theorem scan_row {n y : Nat} (k : Scan p w h n y w) : Scan p w h n (y + 1) 0 := ⟨(fun i P e => by
  have := (pin_lt e (pcs_first e).1).1
  rw [k.at_ i P e]; omega), k.le⟩
theorem scan_end {n : Nat} (k : Scan p w h n h 0) : n = (pcsOf p w h).length := by
  have := k.le
  rcases Nat.lt_or_ge n (pcsOf p w h).length with c | c
  · have e := List.getElem?_eq_getElem c
    have h1 := (pin_lt e (pcs_first e).1).2
    have := (k.at_ n _ e).2 (.inl h1)
    omega
  · omega
theorem lftN_own {n i : Nat} {P : PcP} {x y : Nat} (e : (pcsOf p w h)[i]? = some P) (hp : pin P x y = true) (hi : n ≤ i) : lftN p w h n x y = true := by
  obtain ⟨l1, l2⟩ := pin_lt e hp
  unfold lftN
  rw [(pcs_cover l1 l2).2 ⟨i, P, e, hp⟩, Bool.true_and, decide_eq_true]
  refine own_no fun j Q hj eQ => Bool.eq_false_iff.2 fun k2 => ?_
  have := pcs_apart eQ e k2 hp
  omega
theorem scan_white {n y x : Nat} (k : Scan p w h n y x) (hb : lftN p w h n x y = false) : Scan p w h n y (x + 1) := ⟨(fun i P e => by
  have h1 := k.at_ i P e
  constructor
  · intro hi; have := h1.1 hi; omega
  · intro hi
    by_cases c : P.y.toNat < y ∨ P.y.toNat = y ∧ fpx p w h i < x
    · exact h1.2 c
    · rcases Nat.lt_or_ge i n with c2 | c2
      · exact c2
      · have f := (pcs_first e).1
        rw [show fpx p w h i = x by omega, show P.y.toNat = y by omega] at f
        rw [lftN_own e f c2] at hb; cases hb), k.le⟩
theorem scan_black {n y x : Nat} (k : Scan p w h n y x) (hx : x < w) (hy : y < h) (hb : lftN p w h n x y = true) :
    ∃ P, (pcsOf p w h)[n]? = some P ∧ Scan p w h (n + 1) y (x + 1) ∧ (∀ a b, pin P a b = true ↔ ConX (lftN p w h n) w h x y a b) ∧ (∀ a b, ConX (lftN p w h n) w h x y a b → y ≤ b) ∧ ∀ a b, lftN p w h (n + 1) a b = (lftN p w h n a b && !pin P a b) := by
  have hb' := hb
  unfold lftN at hb'
  rw [Bool.and_eq_true, decide_eq_true_eq] at hb'
  obtain ⟨i, P, e, hp⟩ := (pcs_cover hx hy).1 hb'.1
  have hin : n ≤ i := by
    rcases Nat.lt_or_ge i n with c | c
    · have := own_in e hp c; omega
    · exact c
  have hf := (pcs_first e).2 x y hp
  have hna := k.at_ i P e
  have hPy : P.y.toNat = y ∧ fpx p w h i = x := by omega
  have hil := (List.getElem?_eq_some_iff.1 e).1
  obtain rfl : i = n := by
    rcases Nat.lt_or_ge n i with c | c
    · have eQ := List.getElem?_eq_getElem (show n < (pcsOf p w h).length by omega)
      have h1 := k.at_ n _ eQ
      have h2 := pcs_order eQ e c
      omega
    · omega
  have con : ∀ a b, pin P a b = true ↔ ConX (lftN p w h i) w h x y a b := fun a b => by
    rw [pcs_con e hp]
    constructor
    · intro hc
      induction hc with
      | refl => exact .refl
      | @step x1 y1 x2 y2 hc' hb' hn ih => exact ih.step ⟨hb'.1, hb'.2.1, lftN_own e ((pcs_con e hp).2 (hc'.step hb' hn)) (Nat.le_refl _)⟩ hn
    · intro hc
      induction hc with
      | refl => exact .refl
      | @step x1 y1 x2 y2 hc' hb' hn ih =>
        refine ih.step ⟨hb'.1, hb'.2.1, ?_⟩ hn
        have := hb'.2.2
        unfold lftN at this
        rw [Bool.and_eq_true] at this
        exact this.1
  refine ⟨P, e, ⟨fun j Q eQ => ?_, hil⟩, con, fun a b hc => ?_, fun a b => ?_⟩
  · rcases Nat.lt_trichotomy j i with c | c | c
    · have := (k.at_ j Q eQ).1 c; omega
    · subst c; rw [e] at eQ; cases eQ; omega
    · have := pcs_order e eQ c; omega
  · have := (pcs_first e).2 a b ((con a b).2 hc); omega
  · unfold lftN
    rw [ownN, e]
    cases c : pin P a b
    · simp [c]
    · simp [c]
section
variable {P : Prog} {H : Heap} {R T : List As}
structure RfS where
  k : Nat
  n : Nat
  ov : V
  PR : List PcR
set_option maxRecDepth 20000 in
set_option maxHeartbeats 2000000 in
theorem rf_l1 (hz : HasRz P) (hg : P 189 = some burinref10_piece) {Q : Post} {t : Tag Q} {s : Tag burinref10_Of_l1} {b1 b4 y n : Nat} {v lv ov : V} {PR : List PcR} (hy : y < h) (hsm : h * w ≤ 1048576) (hw : w ≤ 1048576) (hh : h ≤ 1048576) (m1 : Cel b1 [.int .i64 (w : Nat), .int .i64 (h : Nat), v] ∈ T) (m4 : Cel b4 [.int .i64 (w : Nat), .int .i64 (h : Nat), lv] ∈ T)
    (hS : Scan p w h n y 0) (hk : PR.map (fun r => r.p.key) = ((pcsOf p w h).take n).map PcP.key) (hs : Hs H (BmA lv w h (lftN p w h n) :: StP ov PR T))
    (hK : ∀ n' ov' PR' H' ex, Scan p w h n' (y + 1) 0 → PR'.map (fun r => r.p.key) = ((pcsOf p w h).take n').map PcP.key → Hs H' (BmA lv w h (lftN p w h n') :: StP ov' PR' T) → Q (.exit 2) ⟨(1, .ptr (some (b1, 0))) :: (4, .ptr (some (b4, 0))) :: (5, ov') :: (6, .int .i64 (y : Nat)) :: ex, []⟩ H') :
    loopL (Call P) [1, 4, 5, 6, 7] burinref10_Of_l1 Q t s ⟨[(1, .ptr (some (b1, 0))), (4, .ptr (some (b4, 0))), (5, ov), (6, .int .i64 (y : Nat)), (7, .int .i64 ((0 : Nat) : Int))], []⟩ H := by
  refine loop_dec (σ := RfS) (fun z => w - z.k) (fun z => ⟨[(1, .ptr (some (b1, 0))), (4, .ptr (some (b4, 0))), (5, z.ov), (6, .int .i64 (y : Nat)), (7, .int .i64 (z.k : Nat))], []⟩)
    (fun z H => z.k ≤ w ∧ Scan p w h z.n y z.k ∧ z.PR.map (fun r => r.p.key) = ((pcsOf p w h).take z.n).map PcP.key ∧ Hs H (BmA lv w h (lftN p w h z.n) :: StP z.ov z.PR T))
    (fun z H1 K ⟨hk0, hS1, hk1, h1⟩ hn hx hrr => ?_) ⟨0, n, ov, PR⟩ H ⟨Nat.zero_le _, hS, hk, hs⟩
  obtain ⟨x, n1, ov1, PR1⟩ := z
  dsimp only at hk0 hS1 hk1 h1 hn
  have c1 := rd_s (h1.tail.stTail.celm m1)
  by_cases hlt : x < w
  · have c4 := rd_bm h1.tail.stTail m4 3 rfl
    simp -implicitDefEqProofs -dsimp (disch := omega) only [go_sem, dec_t, dec_f, burinref10_Of_l1, c1, c4]
    refine getB_ct hz h1 fun H2 h2 _ => ?_
    rw [show getV w h (lftN p w h n1) x y = (lftN p w h n1 x y).toNat by unfold getV; rw [if_pos (by omega), Int.toNat_natCast, Int.toNat_natCast]]
    cases hb : lftN p w h n1 x y with
    | false =>
      simp -implicitDefEqProofs -dsimp (disch := omega) only [go_sem, dec_t, dec_f, Bool.toNat_false, show ((0 : Nat) : Int) = 0 from rfl, w64, cadd1]
      exact hn ⟨x + 1, n1, ov1, PR1⟩ H2 (by dsimp only; omega) ⟨hlt, scan_white hS1 hb, hk1, h2⟩
    | true =>
      obtain ⟨Pn, eP, hS2, hcon, hfr, hlf⟩ := scan_black hS1 hlt hy hb
      have c4 := rd_bm h2.tail.stTail m4 3 rfl
      simp -implicitDefEqProofs -dsimp (disch := omega) only [go_sem, dec_t, dec_f, Bool.toNat_true, show ((1 : Nat) : Int) = 1 from rfl, c4]
      refine piece_ct hz hg h2 ⟨hlt, hy, hb⟩ hfr fun X v' H3 hT hI hpin h3 => ?_
      have hkey : X.key = Pn.key := tight_uniq hT (pcs_tight eP) fun a b => (hpin a b).trans (hcon a b).symm
      have h3 := (h3.p1.bmc (q := lftN p w h (n1 + 1)) fun a b _ _ => by
        rw [hlf]
        have : pin X a b = pin Pn a b := by rw [Bool.eq_iff_iff, hpin, hcon]
        rw [this]).p1
      obtain ⟨va, vn, vc, ve, rfl⟩ : ∃ a n c e, v' = V.sl a n c e := by obtain ⟨vb, kv⟩ := bmV h3; exact ⟨_, _, _, _, kv.val⟩
      have hle := hS2.le
      have hl1 : PR1.length = n1 := by
        have := congrArg List.length hk1
        rw [List.length_map, List.length_map, List.length_take] at this; omega
      have hl2 : (pcsOf p w h).length ≤ 1048576 := by
        have e2 := pcs_len (p := p) (w := w) (h := h)
        have e3 := cnt2_le w p h
        omega
      obtain ⟨X1, X2, X3, X4, X5⟩ := X
      obtain ⟨ov', H4, ha, hoo, hsm', hff⟩ := app_oneT h3.p2.own (M := [.int .i64 X1, .int .i64 X2, .int .i64 (X3 : Nat), .int .i64 (X4 : Nat), .sl va vn vc ve]) (m := 1) (eb := 56) rfl rfl (by omega) (by omega)
      have h4 := h3.p2.lst' hsm' hoo hff
      simp -implicitDefEqProofs -dsimp (disch := omega) only [go_sem, dec_t, dec_f, ha, w64, cadd1]
      refine hn ⟨x + 1, n1 + 1, ov', PR1 ++ [⟨⟨X1, X2, X3, X4, X5⟩, .sl va vn vc ve⟩]⟩ H4 (by dsimp only; omega) ⟨hlt, hS2, ?_, ?_⟩
      · dsimp only
        rw [List.map_append, hk1, show (pcsOf p w h).take (n1 + 1) = (pcsOf p w h).take n1 ++ [Pn] by
          obtain ⟨hl, e⟩ := List.getElem?_eq_some_iff.1 eP
          rw [← e]; exact (List.take_append_getElem hl).symm, List.map_append, List.map_cons, List.map_cons, List.map_nil, List.map_nil, hkey]
      · dsimp only
        unfold StP
        rw [pcCells_snoc, List.length_append]
        refine Hs.perm h4 ?_
        classical
        refine List.perm_iff_count.2 fun x => ?_
        simp only [List.map_append, List.map_cons, List.map_nil, List.count_append, List.count_cons, List.count_nil, PcR.as, PcR.cs, List.length_cons, List.length_nil]
        ac_rfl
  · obtain rfl : x = w := by omega
    simp -implicitDefEqProofs -dsimp (disch := omega) only [go_sem, dec_t, dec_f, burinref10_Of_l1, c1]
    rw [hx]
    exact hK n1 ov1 PR1 H1 _ (scan_row hS1) hk1 h1
set_option maxRecDepth 20000 in
set_option maxHeartbeats 2000000 in
theorem rf_l0 (hz : HasRz P) (hg : P 189 = some burinref10_piece) {Q : Post} {t : Tag Q} {s : Tag burinref10_Of_l0} {b1 b4 : Nat} {v lv : V} (hsm : h * w ≤ 1048576) (hw : w ≤ 1048576) (hh : h ≤ 1048576) (m1 : Cel b1 [.int .i64 (w : Nat), .int .i64 (h : Nat), v] ∈ T) (m4 : Cel b4 [.int .i64 (w : Nat), .int .i64 (h : Nat), lv] ∈ T)
    (hs : Hs H (BmA lv w h p :: T))
    (hK : ∀ ov' PR' H' ex, PR'.map (fun r => r.p.key) = (pcsOf p w h).map PcP.key → Hs H' (StP ov' PR' T) → Q (.exit 0) ⟨(1, .ptr (some (b1, 0))) :: (4, .ptr (some (b4, 0))) :: (5, ov') :: ex, []⟩ H') :
    loopL (Call P) [1, 4, 5, 6] burinref10_Of_l0 Q t s ⟨[(1, .ptr (some (b1, 0))), (4, .ptr (some (b4, 0))), (5, .sl none 0 0 0), (6, .int .i64 ((0 : Nat) : Int))], []⟩ H := by
  have h0 : Hs H (BmA lv w h (lftN p w h 0) :: StP (.sl none 0 0 0) [] T) := by
    have h1 := hs.bmc (q := lftN p w h 0) fun a b _ _ => by unfold lftN; rw [ownN, decide_eq_true rfl, Bool.and_true]
    have h2 : Hs H (Lst (.sl none 0 0 0) 5 0 [] :: BmA lv w h (lftN p w h 0) :: T) := h1.lst (Same.refl _ _) (own_nil _ 5) fun _ h => h.elim
    exact h2.p1
  refine loop_dec (σ := RfS) (fun z => h - z.k) (fun z => ⟨[(1, .ptr (some (b1, 0))), (4, .ptr (some (b4, 0))), (5, z.ov), (6, .int .i64 (z.k : Nat))], []⟩)
    (fun z H => z.k ≤ h ∧ Scan p w h z.n z.k 0 ∧ z.PR.map (fun r => r.p.key) = ((pcsOf p w h).take z.n).map PcP.key ∧ Hs H (BmA lv w h (lftN p w h z.n) :: StP z.ov z.PR T))
    (fun z H1 K ⟨hk0, hS1, hk1, h1⟩ hn hx hrr => ?_) ⟨0, 0, .sl none 0 0 0, []⟩ H ⟨Nat.zero_le _, scan_0, rfl, h0⟩
  obtain ⟨y, n1, ov1, PR1⟩ := z
  dsimp only at hk0 hS1 hk1 h1 hn
  have c1 := rd_s (h1.tail.stTail.celm m1)
  by_cases hlt : y < h
  · simp -implicitDefEqProofs -dsimp (disch := omega) only [go_sem, dec_t, dec_f, burinref10_Of_l0, c1]
    refine rf_l1 hz hg hlt hsm hw hh m1 m4 hS1 hk1 h1 fun n' ov' PR' H' ex hS' hk' h' => ?_
    simp -implicitDefEqProofs -dsimp (disch := omega) only [go_sem, dec_t, dec_f, w64, cadd1]
    exact hn ⟨y + 1, n', ov', PR'⟩ H' (by dsimp only; omega) ⟨hlt, hS', hk', h'⟩
  · obtain rfl : y = h := by omega
    simp -implicitDefEqProofs -dsimp (disch := omega) only [go_sem, dec_t, dec_f, burinref10_Of_l0, c1]
    rw [hx]
    rw [scan_end hS1, List.take_length] at hk1
    exact hK ov1 PR1 H1 _ hk1 h1.tail
set_option maxRecDepth 20000 in
set_option maxHeartbeats 2000000 in
theorem refOf_ct (hz : HasRz P) (hl : HasL10Of P) {Q : Out → Heap → Prop} {w h : Int} {v : V} {ws : List Nat} (hs : Hs H R) (hv : ∀ H', Hs H' R → Arr H' v 1 ws.length (u64s ws)) (hlt : ∀ n ∈ ws, n < 18446744073709551616) (hw : i64r w) (hh : i64r h) (hlen : ws.length ≤ 17592186040000)
    (hQ1 : ¬ mayB w h ws → ∀ H', Hs H' R → Q (.ret (.tup [.sl none 0 0 0, .int .i64 90])) H')
    (hQ2 : mayB w h ws → ∀ ov PR H', PR.map (fun r => r.p.key) = (pcsOf (pixOf w.toNat ws) w.toNat h.toNat).map PcP.key → Hs H' (StP ov PR R) → Q (.ret (.tup [ov, .int .i64 0])) H') : Call P 182 [.agg [.int .i64 w, .int .i64 h, v]] H Q := by
  refine call_of hl.h_burinref10_Of rfl ?_
  have h1 := hs.alloc (l := [.int .i64 w, .int .i64 h, v])
  have r1 := rd_bm h1 (List.mem_cons_self ..) 3 rfl
  simp -implicitDefEqProofs -dsimp (disch := omega) only [go_sem, dec_t, dec_f, ]
  generalize H.new _ = H1 at *
  generalize H.next = b1 at *
  simp -implicitDefEqProofs -dsimp (disch := omega) only [go_sem, dec_t, dec_f, r1]
  refine may_ct hz h1 (hv H1 h1.tail) hlt hw hh fun mb H2 hm h2 _ => ?_
  cases mb with
  | false =>
    simp -implicitDefEqProofs -dsimp (disch := omega) only [go_sem, dec_t, dec_f, ]
    exact hQ1 (fun k => by have := hm.2 k; cases this) H2 h2.tail
  | true =>
  have may := hm.1 rfl
  have hQ2 := hQ2 may
  have r2 := rd_bm h2 (List.mem_cons_self ..) 3 rfl
  simp -implicitDefEqProofs -dsimp (disch := omega) only [go_sem, dec_t, dec_f, r2]
  refine copyR_ct hz h2 (hv H2 h2.tail) hlen fun lv H3 h3 _ => ?_
  obtain ⟨⟨m1, m2, m3⟩, m4, m5⟩ := may
  have hle := sizeOk_le ⟨m1, m2, m3⟩
  obtain ⟨wn, rfl⟩ : ∃ k : Nat, w = k := ⟨w.toNat, by omega⟩
  obtain ⟨hn, rfl⟩ : ∃ k : Nat, h = k := ⟨h.toNat, by omega⟩
  rw [Int.toNat_natCast, Int.toNat_natCast] at hQ2
  rw [Int.toNat_natCast, Int.toNat_natCast] at m4 m5
  have m3 : wn * hn ≤ 1048576 := by rw [← Int.natCast_mul] at m3; omega
  have ew : Wds wn hn (pixOf wn ws) = ws := Wds_pix (by omega) m4 m5 hlt
  obtain ⟨la, lc, le, rfl⟩ := h3.own.arr.shape
  have h3 : Hs H3 (BmA (.sl la ws.length lc le) wn hn (pixOf wn ws) :: Cel b1 [.int .i64 (wn : Nat), .int .i64 (hn : Nat), v] :: R) := bmA_of (by rw [ew]; exact h3) ⟨by omega, by omega, m3⟩
  have h4 := h3.alloc (l := [.int .i64 (wn : Nat), .int .i64 (hn : Nat), .sl la ws.length lc le])
  simp -implicitDefEqProofs -dsimp (disch := omega) only [go_sem, dec_t, dec_f, ]
  generalize H3.new _ = H4 at *
  generalize H3.next = b4 at *
  refine rf_l0 (b1 := b1) (b4 := b4) (v := v) (lv := .sl la ws.length lc le) hz hl.h_burinref10_piece (by rw [Nat.mul_comm]; exact m3) (by omega) (by omega) (T := Cel b4 [.int .i64 (wn : Nat), .int .i64 (hn : Nat), .sl la ws.length lc le] :: Cel b1 [.int .i64 (wn : Nat), .int .i64 (hn : Nat), v] :: R) (by simp) (by simp) h4.p1 fun ov PR H5 ex hk h5 => ?_
  simp -implicitDefEqProofs -dsimp (disch := omega) only [go_sem, dec_t, dec_f, ]
  refine hQ2 ov PR H5 hk ?_
  have := Hs.perm (L' := [Cel b4 [.int .i64 (wn : Nat), .int .i64 (hn : Nat), .sl la ws.length lc le], Cel b1 [.int .i64 (wn : Nat), .int .i64 (hn : Nat), v]] ++ StP ov PR R) h5 (by
    classical
    refine List.perm_iff_count.2 fun x => ?_
    simp only [StP, List.count_append, List.count_cons, List.count_nil]
    ac_rfl)
  exact this.cutl
end
end Go.Ab
