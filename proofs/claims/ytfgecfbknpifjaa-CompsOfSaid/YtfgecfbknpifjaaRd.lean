/- The program's Touch and Back. Conditions: none. -/
import Derived.Test.YtfgecfbknpifjaaRc
set_option linter.all false
namespace Go.Ab
def touchP (a b : Int × Int) : Prop := a.1 < a.2 ∧ b.1 < b.2 ∧ a.1 ≤ b.2 ∧ b.1 ≤ a.2
instance (a b : Int × Int) : Decidable (touchP a b) := by unfold touchP; infer_instance
/-- Rows of runs that can be read where R holds. -/
def RRd (R : List As) (v : V) (rows : List (List (Int × Int))) : Prop := ∃ vals : List V, ∀ H, Hs H R → Arr H v 1 rows.length vals ∧ ∀ (i : Nat) (l : List (Int × Int)), rows[i]? = some l → ∃ x, vals[i]? = some x ∧ Arr H x 2 l.length (rcells l)
theorem RRd.mono {R R' : List As} {v : V} {rows : List (List (Int × Int))} (s : RRd R v rows) (k : ∀ H, Hs H R' → Hs H R) : RRd R' v rows := let ⟨vals, h⟩ := s; ⟨vals, fun H hh => h H (k H hh)⟩
theorem RRd.cons {R : List As} {A : As} {v : V} {rows : List (List (Int × Int))} (s : RRd R v rows) : RRd (A :: R) v rows := s.mono fun _ h => h.tail
theorem rrd_st {ov : V} {RL : List RowR} {T : List As} : RRd (StR ov RL T) ov (RL.map RowR.l) := by
  refine ⟨RL.map RowR.v, fun H h => ⟨?_, fun i l hi => ?_⟩⟩
  · rw [List.length_map]; exact (h.ownm (v := ov) (e := 1) (n := RL.length) (l := RL.map RowR.v) (by simp [StR])).arr
  · rw [List.getElem?_map] at hi
    obtain ⟨r, hr, rfl⟩ := Option.map_eq_some_iff.1 hi
    refine ⟨r.v, by rw [List.getElem?_map, hr]; rfl, (h.ownm (v := r.v) (e := 2) (n := r.l.length) (l := rcells r.l) ?_).arr⟩
    simp only [StR, List.mem_cons, List.mem_append, List.mem_map]
    exact Or.inr (Or.inl ⟨r, List.mem_of_getElem? hr, rfl⟩)
theorem run_rd {H : Heap} {b o c : Nat} {l : List (Int × Int)} (h : Arr H (.sl (some (b, o)) l.length c 2) 2 l.length (rcells l)) {i : Nat} (hi : i < l.length) : rd H (some 2) b (o + i * 2) = some (.agg [.int .i64 l[i].1, .int .i64 l[i].2]) ∧ rd H none b (o + i * 2) = some (.int .i64 l[i].1) ∧ rd H none b (o + i * 2 + 1) = some (.int .i64 l[i].2) := by
  have k := rcells_at hi
  refine ⟨by rw [h.agg hi, k], ?_, ?_⟩
  · have := h.rdm hi (k := 0) (by omega)
    rw [Nat.add_zero, Nat.add_zero] at this
    rw [this, show (rcells l)[i * 2]? = (((rcells l).drop (i * 2)).take 2)[0]? by simp [List.getElem?_take, List.getElem?_drop], k]; rfl
  · rw [h.rdm hi (k := 1) (by omega), show (rcells l)[i * 2 + 1]? = (((rcells l).drop (i * 2)).take 2)[1]? by simp [List.getElem?_take, List.getElem?_drop], k]; rfl
def okRow (w : Int) : Int → List (Int × Int) → Bool
  | _, [] => true
  | to, r :: rs => decide (to < r.1 ∧ r.1 < r.2 ∧ r.2 ≤ w) && okRow w r.2 rs
def inR (l : List (Int × Int)) (i : Nat) : Bool := l.any fun r => decide (r.1 ≤ i ∧ (i : Int) < r.2)
def bkP (rows : List (List (Int × Int))) : Nat → Nat → Bool := fun i j => inR (rows.getD j []) i
def okRows (w : Int) (rows : List (List (Int × Int))) : Prop := sizeOk w rows.length ∧ ∀ l ∈ rows, okRow w (-1) l = true
/-- Rows below y, of row y the first k runs. -/
def bkQ (rows : List (List (Int × Int))) (y k : Nat) : Nat → Nat → Bool := fun i j => (decide (j < y) && inR (rows.getD j []) i) || (decide (j = y) && inR ((rows.getD j []).take k) i)
theorem inR_snoc (l : List (Int × Int)) (r : Int × Int) (i : Nat) : inR (l ++ [r]) i = (inR l i || decide (r.1 ≤ i ∧ (i : Int) < r.2)) := by simp [inR]
theorem okRow_app {w : Int} : ∀ {to : Int} {a b : List (Int × Int)}, okRow w to (a ++ b) = true → okRow w to a = true
  | _, [], _, _ => rfl
  | to, r :: a, b, h => by
    simp only [List.cons_append, okRow, Bool.and_eq_true] at h ⊢
    exact ⟨h.1, okRow_app h.2⟩
theorem okRow_mid {w : Int} : ∀ {to : Int} {a l : List (Int × Int)} {r : Int × Int} (_ : l = a ++ [r]) (_ : okRow w to l = true), -1 ≤ to → -1 ≤ r.2
  | to, [], l, r, e, h, h0 => by
    subst e
    simp only [List.nil_append, okRow, Bool.and_eq_true, decide_eq_true_eq] at h
    omega
  | to, q :: a, l, r, e, h, h0 => by
    subst e
    simp only [List.cons_append, okRow, Bool.and_eq_true, decide_eq_true_eq] at h
    exact okRow_mid rfl h.2 (by omega)
def lastTo (to : Int) (l : List (Int × Int)) : Int := (l.getLastD (0, to)).2
theorem lastTo_snoc (to : Int) (a : List (Int × Int)) (r : Int × Int) : lastTo to (a ++ [r]) = r.2 := by simp [lastTo]
theorem okRow_snoc {w : Int} : ∀ {to : Int} {a : List (Int × Int)} {r : Int × Int}, okRow w to (a ++ [r]) = (okRow w to a && decide (lastTo to a < r.1 ∧ r.1 < r.2 ∧ r.2 ≤ w))
  | to, [], r => by simp [okRow, lastTo]
  | to, q :: a, r => by
    simp only [List.cons_append, okRow, okRow_snoc (to := q.2) (a := a), Bool.and_assoc]
    congr 2
    unfold lastTo
    cases a with
    | nil => simp
    | cons z a => simp [List.getLastD_cons, List.getLast?_cons]
section
variable {P : Prog} {H : Heap} {R : List As} {Q : Out → Heap → Prop}
theorem mapSz0 {m w h : Nat} {p : Nat → Nat → Bool} (hs : Hs H (MapA m w h p :: R)) : 1 ≤ w ∧ 1 ≤ h ∧ w * h ≤ 1048576 := ⟨(mapSz hs).1, (mapSz hs).2.1, (mapSz hs).2.2.1⟩
theorem touch_ct (hp : HasRu P) {a b : Int × Int} (hs : Hs H R) (hQ : ∀ H', Hs H' R → Q (.ret (.bool (decide (touchP a b)))) H') : Call P 117 [.agg [.int .i64 a.1, .int .i64 a.2], .agg [.int .i64 b.1, .int .i64 b.2]] H Q := by
  refine call_of hp.h_runs_Touch rfl ?_
  have g1 := (hs.alloc (l := [.int .i64 a.1, .int .i64 a.2])).alloc (l := [.int .i64 b.1, .int .i64 b.2])
  rw [next_new] at g1
  have hQ := hQ _ g1.tail.tail
  have c1 := rd_s g1.cel
  have c2 := rd_s g1.p1.cel
  by_cases k : touchP a b
  · rw [decide_eq_true k] at hQ
    obtain ⟨k1, k2, k3, k4⟩ := k
    simp -implicitDefEqProofs -dsimp (disch := omega) only [go_sem, dec_t, dec_f, c1, c2]
    exact hQ
  · rw [decide_eq_false k] at hQ
    unfold touchP at k
    rcases (show a.2 ≤ a.1 ∨ (a.1 < a.2 ∧ b.2 ≤ b.1) ∨ (a.1 < a.2 ∧ b.1 < b.2 ∧ b.2 < a.1) ∨ (a.1 < a.2 ∧ b.1 < b.2 ∧ a.1 ≤ b.2 ∧ a.2 < b.1) by omega) with d | d | d | d <;>
    · simp -implicitDefEqProofs -dsimp (disch := omega) only [go_sem, dec_t, dec_f, c1, c2]
      exact hQ
structure BkS where
  k : Nat
  to : Int
set_option maxHeartbeats 1000000 in
theorem runsBack_ct (hb : HasBm P) (hp : HasRu P) {w : Int} {v : V} {rows : List (List (Int × Int))} (hs : Hs H R) (sr : RRd R v rows) (hw : i64r w) (hlen : rows.length ≤ 281474976710656) (hlr : ∀ l ∈ rows, l.length ≤ 281474976710656)
    (hQ1 : ¬ okRows w rows → ∀ H', Hs H' R → Q (.ret (.tup [.agg [.int .i64 0, .int .i64 0, .sl none 0 0 0], .int .i64 80])) H')
    (hQ2 : okRows w rows → ∀ v' H', Hs H' (BmA v' w.toNat rows.length (bkP rows) :: R) → Q (.ret (.tup [.agg [.int .i64 w, .int .i64 rows.length, v'], .int .i64 0])) H') : Call P 116 [v, .int .i64 w] H Q := by
  obtain ⟨vals, hrd⟩ := sr
  obtain ⟨a0, c0, e0, hvs⟩ := (hrd H hs).1.shape
  refine call_of hp.h_runs_Back rfl ?_
  have h1 := hs.alloc (l := [.int .i64 0, .int .i64 0, .sl none 0 0 0])
  rw [hvs]
  simp -implicitDefEqProofs -dsimp (disch := omega) only [go_sem, dec_t, dec_f, ]
  rw [← hvs]
  generalize H.new _ = H1 at *
  generalize H.next = b at *
  have bad : ∀ {H' : Heap} {T : List As}, Hs H' (Cel b [.int .i64 0, .int .i64 0, .sl none 0 0 0] :: T) → ∃ H'', wr H' b 0 [.int .i64 0, .int .i64 0, .sl none 0 0 0] = some H'' ∧ Hs H'' (Cel b [.int .i64 0, .int .i64 0, .sl none 0 0 0] :: T) := fun h => h.sto 0 rfl (by simp) (by simp [one])
  unfold i64r at hw
  refine new_ct hb h1 hw (by omega) (fun k => ?_) fun k m H2 h2 _ => ?_
  · obtain ⟨H3, e3, h3⟩ := bad h1
    have r3 := rd_bm h3 (List.mem_cons_self ..) 3 rfl
    simp -implicitDefEqProofs -dsimp (disch := omega) only [go_sem, dec_t, dec_f, e3, r3]
    exact hQ1 (fun q => k q.1) H3 h3.tail
  have hle := sizeOk_le k
  have hkk := k
  obtain ⟨k1, k2, k3⟩ := k
  obtain ⟨wn, rfl⟩ : ∃ n : Nat, w = n := ⟨w.toNat, by omega⟩
  simp only [Int.toNat_natCast] at h2 hQ2
  rw [hvs]
  simp -implicitDefEqProofs -dsimp (disch := omega) only [go_sem, dec_t, dec_f, ]
  rw [← hvs]
  refine loop_cnt rows.length (fun y => ⟨[(1, .int .i64 wn), (4, .ptr (some (b, 0))), (6, .ptr (some (m, 0))), (23, v), (24, .int .i64 (rows.length : Nat)), (25, .int .i64 y)], []⟩)
    (fun y H => (∀ j, j < y → okRow wn (-1) (rows.getD j []) = true) ∧ Hs H (MapA m wn rows.length (bkQ rows y 0) :: Cel b [.int .i64 0, .int .i64 0, .sl none 0 0 0] :: R)) (fun y H3 K hy ⟨hok, h3⟩ hn hx hr => ?_) 0 H2 (by omega) ⟨fun j hj => by omega, h2.mapc fun i j _ _ => by simp [bkQ, inR]⟩
  by_cases he : y < rows.length
  · obtain ⟨arr, hel⟩ := hrd H3 h3.tail.tail
    obtain ⟨x, hx1, hx2⟩ := hel y rows[y] (by simp [he])
    obtain ⟨vb, vo, vc, hv1⟩ := arr.at0 (by omega)
    have hv2 := hv1
    rw [hvs] at hv2
    have hrx : rd H3 none vb (vo + y) = some x := by
      rw [hv1] at arr
      rw [arr.rd1 he, hx1]
    obtain ⟨xa, xc, xe, hxs⟩ := hx2.shape
    have hgd : rows.getD y [] = rows[y] := by simp [List.getD_eq_getElem?_getD, he]
    generalize hl : rows[y] = l at *
    rw [hv1]
    rw [hxs] at hrx
    simp -implicitDefEqProofs -dsimp (disch := omega) only [go_sem, dec_t, dec_f, runs_Back_l0, Int.toNat_natCast, Nat.mul_one, hrx]
    rw [← hxs, ← hv1]
    have hmem : l ∈ rows := by rw [← hl]; exact List.getElem_mem _
    have hll := hlr l hmem
    refine loop_cnt l.length (fun k => ⟨[(1, .int .i64 wn), (4, .ptr (some (b, 0))), (6, .ptr (some (m, 0))), (8, .int .i64 y), (10, .int .i64 (lastTo (-1) (l.take k))), (23, v), (24, .int .i64 (rows.length : Nat)), (25, .int .i64 y), (30, x), (31, .int .i64 (l.length : Nat)), (32, .int .i64 k)], []⟩)
      (fun k H => okRow wn (-1) (l.take k) = true ∧ Hs H (MapA m wn rows.length (bkQ rows y k) :: Cel b [.int .i64 0, .int .i64 0, .sl none 0 0 0] :: R)) (fun k H4 K2 hk ⟨hok2, h4⟩ hn2 hx2' hr2 => ?_) 0 H3 (by omega) ⟨rfl, h3⟩
    by_cases hkl : k < l.length
    · obtain ⟨arr4, hel4⟩ := hrd H4 h4.tail.tail
      obtain ⟨x', hx1', hx4⟩ := hel4 y l (by rw [List.getElem?_eq_getElem he, hl])
      obtain rfl : x' = x := Option.some.inj (hx1'.symm.trans hx1)
      obtain ⟨xb, xo, xc', hxe⟩ := hx4.at0 (by omega)
      rw [hxe] at hx4
      have hrr := run_rd hx4 hkl
      have htk : l.take (k + 1) = l.take k ++ [l[k]] := by rw [List.take_succ_eq_append_getElem hkl]
      have hsn := okRow_snoc (w := wn) (to := -1) (a := l.take k) (r := l[k])
      rw [← htk, hok2, Bool.true_and] at hsn
      have hlt : lastTo (-1) (l.take (k + 1)) = l[k].2 := by rw [htk]; exact lastTo_snoc _ _ _
      generalize hto : lastTo (-1) (l.take k) = to at *
      generalize hr' : l[k] = r at *
      have h5 := h4.alloc (l := [.int .i64 r.1, .int .i64 r.2])
      have c12 := rd_s h5.cel
      have fr0 : x' = .sl (some (xb, xo)) l.length xc' 2 := hxe
      rw [fr0]
      by_cases hc : to < r.1 ∧ r.1 < r.2 ∧ r.2 ≤ wn
      · obtain ⟨q1, q2, q3⟩ := hc
        have hok3 : okRow wn (-1) (l.take (k + 1)) = true := by rw [hsn]; exact decide_eq_true ⟨q1, q2, q3⟩
        have hto1 : -1 ≤ to := by
          rw [← hto]
          by_cases k0 : k = 0
          · subst k0; simp [lastTo]
          · have e : l.take k = l.take (k - 1) ++ [l[k - 1]] := by
              have := List.take_succ_eq_append_getElem (l := l) (i := k - 1) (by omega)
              rwa [Nat.sub_add_cancel (by omega)] at this
            have h6 := okRow_mid e hok2 (by omega)
            rw [e, lastTo_snoc]; exact h6
        obtain ⟨f, hf⟩ : ∃ f : Nat, r.1 = f := ⟨r.1.toNat, by omega⟩
        simp -implicitDefEqProofs -dsimp (disch := omega) only [go_sem, dec_t, dec_f, runs_Back_l1, Int.toNat_natCast, hrr, c12, w64]
        refine fill_ct hb h5.p1 (by unfold i64r; omega) (by unfold i64r; omega) (by unfold i64r; omega) (by decide) fun H6 h6 => ?_
        have hfr : fillR (r.2 - r.1) 1 1 = 0 := by unfold fillR; rw [if_neg (by omega), if_pos (by omega)]
        rw [hfr, if_pos rfl] at h6
        rw [hfr]
        simp -implicitDefEqProofs -dsimp (disch := omega) only [go_sem, dec_t, dec_f, w64, cadd1]
        rw [← fr0, ← hlt]
        refine hn2 hkl H6 ⟨hok3, h6.tail2.mapc fun i j hi hj => ?_⟩
        unfold fillP bkQ
        by_cases e : j = y
        · subst e
          rw [hgd, htk, inR_snoc]
          by_cases d : r.1 ≤ i ∧ (i : Int) < r.2
          · rw [if_pos (by omega)]; simp [d]
          · rw [if_neg (by omega), show decide (r.1 ≤ i ∧ (i : Int) < r.2) = false from decide_eq_false d, Bool.or_false]
        · rw [if_neg (by omega)]
          rw [decide_eq_false e, Bool.false_and, Bool.false_and]
      · have hno : ¬ okRows wn rows := by
          rintro ⟨_, q⟩
          have := q l hmem
          rw [← List.take_append_drop (k + 1) l] at this
          have := okRow_app this
          rw [hsn] at this
          exact hc (of_decide_eq_true this)
        obtain ⟨H6, e6, h6⟩ := bad (h5.foc 2 rfl)
        have r6 := rd_bm h6 (List.mem_cons_self ..) 3 rfl
        rcases (show r.1 ≤ to ∨ (to < r.1 ∧ r.2 ≤ r.1) ∨ (to < r.1 ∧ r.1 < r.2 ∧ (wn : Int) < r.2) by omega) with d | d | d <;>
        · simp -implicitDefEqProofs -dsimp (disch := omega) only [go_sem, dec_t, dec_f, runs_Back_l1, Int.toNat_natCast, hrr, c12, w64, e6]
          rw [hr2]
          simp -implicitDefEqProofs -dsimp (disch := omega) only [go_sem, dec_t, dec_f, ]
          rw [hr]
          simp -implicitDefEqProofs -dsimp (disch := omega) only [go_sem, dec_t, dec_f, r6]
          exact hQ1 hno H6 h6.tail.tail.tail
    · obtain rfl : k = l.length := by omega
      rw [hxs]
      simp -implicitDefEqProofs -dsimp (disch := omega) only [go_sem, dec_t, dec_f, runs_Back_l1]
      rw [hx2']
      simp -implicitDefEqProofs -dsimp (disch := omega) only [go_sem, dec_t, dec_f, w64, cadd1]
      rw [List.take_length] at hok2
      refine hn he H4 ⟨fun j hj => ?_, h4.mapc fun i j _ _ => ?_⟩
      · by_cases e : j = y
        · subst e; rw [hgd]; exact hok2
        · exact hok j (by omega)
      · unfold bkQ
        simp only [List.take_zero]
        by_cases e : j = y
        · subst e; rw [hgd, List.take_length]; simp [inR]
        · rw [decide_eq_false e, show decide (j < y + 1) = decide (j < y) from decide_eq_decide.2 (by omega)]
          simp [inR]
  · obtain rfl : y = rows.length := by omega
    rw [hvs]
    simp -implicitDefEqProofs -dsimp (disch := omega) only [go_sem, dec_t, dec_f, runs_Back_l0]
    rw [hx]
    simp -implicitDefEqProofs -dsimp (disch := omega) only [go_sem, dec_t, dec_f, ]
    refine plain_ct hb h3 fun v' H4 h4 _ => ?_
    obtain ⟨a3, c3, e3, hv3⟩ := h4.own.arr.shape
    have h4' := bmA_of h4 (mapSz0 h3)
    obtain ⟨H5, e5, h5⟩ := h4'.sto 2 (o := 0) (vs := [.int .i64 wn, .int .i64 (rows.length : Nat), v']) rfl (by simp) (by rw [hv3]; simp [one])
    have r5 := rd_bm h5 (b := b) (l := [.int .i64 wn, .int .i64 (rows.length : Nat), v']) (by simp [over]) 3 rfl
    rw [hv3] at e5 r5 ⊢
    simp -implicitDefEqProofs -dsimp (disch := omega) only [go_sem, dec_t, dec_f, e5, r5]
    rw [← hv3]
    refine hQ2 ⟨hkk, fun l hl => ?_⟩ v' H5 ?_
    · obtain ⟨i, hi, rfl⟩ := List.getElem_of_mem hl
      have := hok i hi
      simpa [List.getD_eq_getElem?_getD, hi] using this
    · refine Hs.bmc ?_ (p := bkQ rows rows.length 0) fun i j _ hj => ?_
      · exact h5.tail2.tail2
      · simp [bkQ, bkP, inR, hj]
end
end Go.Ab
