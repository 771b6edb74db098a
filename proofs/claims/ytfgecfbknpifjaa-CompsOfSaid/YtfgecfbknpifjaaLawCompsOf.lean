/- The law CompsOf. Conditions: none. -/
import Derived.Test.YtfgecfbknpifjaaPv
import Derived.Test.YtfgecfbknpifjaaPo
import Derived.Test.YtfgecfbknpifjaaC5
set_option linter.all false
namespace Go.Ab
open Classical in
/-- What a bitmap's pieces are, whatever it is. -/
noncomputable def KO (w h : Int) (ws : List Nat) : List (Int × Int × Int × Int × List Nat) := if mayB w h ws then (pcsOf (pixOf w.toNat ws) w.toNat h.toNat).map PcP.key else []
open Classical in
noncomputable def EO (w h : Int) (ws : List Nat) : Int := if mayB w h ws then 0 else 90
theorem KO_ok {w h : Int} {ws : List Nat} : (KO w h ws).length ≤ 1048576 ∧ ∀ k ∈ KO w h ws, keyR k := by
  unfold KO
  split
  · rename_i m
    obtain ⟨⟨m1, m2, m3⟩, m4, m5⟩ := m
    have hle := sizeOk_le ⟨m1, m2, m3⟩
    obtain ⟨wn, rfl⟩ : ∃ k : Nat, w = k := ⟨w.toNat, by omega⟩
    obtain ⟨hn, rfl⟩ : ∃ k : Nat, h = k := ⟨h.toNat, by omega⟩
    have m3 : wn * hn ≤ 1048576 := by rw [← Int.natCast_mul] at m3; omega
    rw [Int.toNat_natCast, Int.toNat_natCast]
    refine ⟨?_, fun k hk => ?_⟩
    · rw [List.length_map]
      have e2 := pcs_len (p := pixOf wn ws) (w := wn) (h := hn)
      have e3 := cnt2_le wn (pixOf wn ws) hn
      have e4 := Nat.mul_comm wn hn
      omega
    · obtain ⟨P, hP, rfl⟩ := List.mem_map.1 hk
      obtain ⟨a1, a2, a3, a4, a5, a6, a7⟩ := pcs_in hP
      unfold keyR i64r PcP.key
      dsimp only
      omega
  · simp
section
variable {P : Prog} {H H0 : Heap} {R T : List As} {Q : Out → Heap → Prop}
theorem compsOfR (hp : HasL10 P) {w h : Int} {v : V} {ws : List Nat} (hs : Hs H R) (hv : ∀ H', Hs H' R → Arr H' v 1 ws.length (u64s ws)) (hlt : ∀ n ∈ ws, n < 18446744073709551616) (hw : i64r w) (hh : i64r h)
    (hQ : ∀ ov PR H', PR.map (fun r => r.p.key) = KO w h ws → Hs H' (StP ov PR R) → Q (.ret (.tup [ov, .int .i64 (EO w h ws)])) H') : Call P 181 [.agg [.int .i64 w, .int .i64 h, v]] H Q := by
  refine compsOf_ct hp.bm hp.ru hp.co hs hv hlt hw hh (fun m H' h' => ?_) fun m ov PR H' hk h' => ?_
  · have := hQ (.sl none 0 0 0) [] H' (by unfold KO; rw [if_neg m]; rfl) (h'.lst (Same.refl _ _) (own_nil _ 5) fun _ h => h.elim)
    unfold EO at this
    rwa [if_neg m] at this
  · have := hQ ov PR H' (by unfold KO; rw [if_pos m, ← hk, List.map_map]; rfl) h'
    unfold EO at this
    rwa [if_pos m] at this
theorem refOfR (hp : HasL10 P) (hl : HasL10Of P) {w h : Int} {v : V} {ws : List Nat} (hs : Hs H R) (hv : ∀ H', Hs H' R → Arr H' v 1 ws.length (u64s ws)) (hlt : ∀ n ∈ ws, n < 18446744073709551616) (hw : i64r w) (hh : i64r h) (hlen : ws.length ≤ 17592186040000)
    (hQ : ∀ ov PR H', PR.map (fun r => r.p.key) = KO w h ws → Hs H' (StP ov PR R) → Q (.ret (.tup [ov, .int .i64 (EO w h ws)])) H') : Call P 182 [.agg [.int .i64 w, .int .i64 h, v]] H Q := by
  refine refOf_ct hp.rz hl hs hv hlt hw hh hlen (fun m H' h' => ?_) fun m ov PR H' hk h' => ?_
  · have := hQ (.sl none 0 0 0) [] H' (by unfold KO; rw [if_neg m]; rfl) (h'.lst (Same.refl _ _) (own_nil _ 5) fun _ h => h.elim)
    unfold EO at this
    rwa [if_neg m] at this
  · have := hQ ov PR H' (by unfold KO; rw [if_pos m, hk]) h'
    unfold EO at this
    rwa [if_pos m] at this
def bmc (PR : List PcR) : List V := PR.flatMap fun r => [.int .i64 (r.p.w : Nat), .int .i64 (r.p.h : Nat), r.v]
/-- The pieces' bitmaps, as OverBitmaps takes them. -/
theorem ov_conv : ∀ {PR : List PcR} {G : Nat → Prop}, HsF H G (PR.map PcR.as ++ R) → ∃ (L : List OvB) (M : List (List Nat)), L.length = PR.length ∧ M.length = PR.length ∧ ovCells L = bmc PR ∧
    (∀ (j : Nat) (o : OvB) (m : List Nat), L[j]? = some o → M[j]? = some m → m.length = o.n) ∧ (∀ o ∈ L, 1 ≤ o.n ∧ o.n ≤ 1048576) ∧ HsF H G (ovAs L M ++ R)
  | [], G, h => ⟨[], [], rfl, rfl, rfl, (fun _ _ _ h => by simp at h), (fun _ h => by cases h), h⟩
  | r :: PR, G, ⟨F, ⟨h1, h2, h3, h4, h5⟩, hd, hr⟩ => by
    obtain ⟨L, M, a1, a2, a3, a4, a5, a6⟩ := ov_conv hr
    have hn : (Wds r.p.w r.p.h r.p.p).length = r.p.h * wds r.p.w := Wds_length _ _ _
    have hpos : 0 < r.p.h * wds r.p.w := Nat.mul_pos (by omega) (by unfold wds; omega)
    have hle := wds_le h5 h3
    rcases h2 with ⟨_, e, _⟩ | ⟨b, hv, hg, hl, hb⟩
    · omega
    · refine ⟨⟨(r.p.w : Nat), (r.p.h : Nat), b, (Wds r.p.w r.p.h r.p.p).length⟩ :: L, Wds r.p.w r.p.h r.p.p :: M, by simp [a1], by simp [a2], ?_, fun j o m e1 e2 => ?_, fun o ho => ?_, ?_⟩
      · rw [ovCells, bmc, List.flatMap_cons, List.flatMap_cons, show L.flatMap OvB.cs = bmc PR from a3]
        unfold OvB.cs
        dsimp only
        rw [hv]; rfl
      · cases j with
        | zero => cases e1; cases e2; rfl
        | succ j => exact a4 j o m (by simpa using e1) (by simpa using e2)
      · rcases List.mem_cons.1 ho with rfl | ho
        · dsimp only; omega
        · exact a5 o ho
      · refine ⟨F, ⟨fun x => ?_, hg, hb⟩, hd, a6⟩
        rw [h1, hv]; exact Iff.rfl
theorem bmo_at {H : Heap} {b o c : Nat} {l : List BmO} (h : Arr H (.sl (some (b, o)) l.length c 3) 3 l.length (bmCells l)) {i : Nat} (hi : i < l.length) : rd H (some 3) b (o + i * 3) = some (.agg [.int .i64 l[i].w, .int .i64 l[i].h, l[i].v]) ∧ rd H none b (o + i * 3 + 2) = some l[i].v := by
  refine ⟨by rw [h.agg hi, bmCells_at hi]; rfl, ?_⟩
  rw [h.rdm hi (by omega)]
  have := bmCells_at hi
  rw [show (bmCells l)[i * 3 + 2]? = (((bmCells l).drop (i * 3)).take 3)[2]? by simp [List.getElem?_take, List.getElem?_drop], this]; rfl
structure ApS where
  n : Nat
  av : V
theorem bmc_take {PR : List PcR} {n : Nat} (hn : n < PR.length) : bmc (PR.take (n + 1)) = bmc (PR.take n) ++ [.int .i64 (PR[n].p.w : Nat), .int .i64 (PR[n].p.h : Nat), PR[n].v] := by
  rw [show PR.take (n + 1) = PR.take n ++ [PR[n]] from (List.take_append_getElem hn).symm, bmc, List.flatMap_append]
  simp [bmc]
/-- The pieces' bitmaps are gathered. -/
theorem co_l2 {Q : Post} {t : Tag Q} {s : Tag burinlaw10_CompsOf_l2} {lv wv ov : V} {i k : Nat} {f : Int} {PR : List PcR} (hl : PR.length ≤ 1048576) (hs : Hs H (StP ov PR T))
    (hK : ∀ av H' ex, Hs H' (Lst av 3 PR.length (bmc PR) :: StP ov PR T) → Q (.exit 4) ⟨(0, lv) :: (3, .int .i64 (i : Nat)) :: (4, wv) :: (5, .int .i64 f) :: (6, .int .i64 (k : Nat)) :: (8, ov) :: (10, av) :: ex, []⟩ H') :
    loopL (Call P) [0, 3, 4, 5, 6, 8, 10, 11] burinlaw10_CompsOf_l2 Q t s ⟨[(0, lv), (3, .int .i64 (i : Nat)), (4, wv), (5, .int .i64 f), (6, .int .i64 (k : Nat)), (8, ov), (10, .sl none 0 0 0), (11, .int .i64 ((0 : Nat) : Int))], []⟩ H := by
  obtain ⟨pa, pc, pe, rfl⟩ := st_shape hs
  refine loop_dec (σ := ApS) (fun z => PR.length - z.n) (fun z => ⟨[(0, lv), (3, .int .i64 (i : Nat)), (4, wv), (5, .int .i64 f), (6, .int .i64 (k : Nat)), (8, .sl pa PR.length pc pe), (10, z.av), (11, .int .i64 (z.n : Nat))], []⟩)
    (fun z H => z.n ≤ PR.length ∧ Hs H (Lst z.av 3 z.n (bmc (PR.take z.n)) :: StP (.sl pa PR.length pc pe) PR T))
    (fun z H1 K ⟨hn0, h1⟩ hn hx hrr => ?_) ⟨0, .sl none 0 0 0⟩ H ⟨Nat.zero_le _, hs.lst (Same.refl _ _) (own_nil _ 3) fun _ h => h.elim⟩
  obtain ⟨n, av⟩ := z
  dsimp only at hn0 h1 hn
  by_cases hlt : n < PR.length
  · obtain ⟨xb, xo, xc, ev, q5, q1, q3⟩ := st_at h1.tail hlt
    cases ev
    have hb := bmc_take hlt
    have hm := List.getElem_mem hlt
    generalize PR[n] = r at q3 hb hm
    obtain ⟨va, vn, vc, ve, hv⟩ : ∃ a n c e, r.v = V.sl a n c e := by
      obtain ⟨vb, kv⟩ := bmV (h1.tail.ofmem (st_bm hm)); exact ⟨_, _, _, _, kv.val⟩
    rw [hv] at q3 hb
    obtain ⟨ov', H2, ha, hoo, hsm, hff⟩ := app_oneT h1.own (M := [.int .i64 (r.p.w : Nat), .int .i64 (r.p.h : Nat), .sl va vn vc ve]) (m := 1) (eb := 40) rfl rfl (by omega) (by omega)
    have h2 := h1.lst' hsm hoo hff
    rw [← hb] at h2
    simp -implicitDefEqProofs -dsimp (disch := omega) only [go_sem, dec_t, dec_f, burinlaw10_CompsOf_l2, Int.toNat_natCast, q3, ha, w64, cadd1]
    exact hn ⟨n + 1, ov'⟩ H2 (by dsimp only; omega) ⟨hlt, h2⟩
  · obtain rfl : n = PR.length := by omega
    rw [List.take_length] at h1
    simp -implicitDefEqProofs -dsimp (disch := omega) only [go_sem, dec_t, dec_f, burinlaw10_CompsOf_l2]
    rw [hx]
    exact hK av H1 _ h1
theorem mem_st {A : As} {ov : V} {PR : List PcR} {T : List As} (h : A ∈ T) : A ∈ StP ov PR T := List.mem_cons_of_mem _ (List.mem_append_right _ h)
set_option maxRecDepth 20000 in
set_option maxHeartbeats 4000000 in
theorem compsOfL (hp : HasL10 P) (hq : HasL2 P) (hf : HasRfc P) (hl : HasL10Of P) {v : V} {l : List BmO} (hv : Arr H v 3 l.length (bmCells l)) (ho : ∀ o ∈ l, BmOk H o) (hll : l.length ≤ 140737488351232) :
    Call P 183 [v] H fun o _ => o = .ret (.bool true) := by
  refine call_of hl.h_burinlaw10_CompsOf rfl ?_
  obtain ⟨va, vc, ve, hvs⟩ := hv.shape
  simp -implicitDefEqProofs -dsimp (disch := omega) only [go_sem, dec_t, dec_f, ]
  refine loop_cnt (min l.length 5) (fun i => ⟨[(0, v), (3, .int .i64 i)], []⟩) (fun i H' => Hs H' [Bas H]) (fun i H1 K hi h1 hn hx hrr => ?_) 0 H (by omega) (Hs.start H)
  by_cases hil : i < l.length ∧ i < 5
  · obtain ⟨d1, d2⟩ := hil
    obtain ⟨vb, vo, vc', hve⟩ := hv.at0 (by omega)
    have rdo := fun {H' : Heap} {R : List As} (h : Hs H' R) (hm : Bas H ∈ R) => bmo_at (by rw [hve] at hv; exact hv.same (h.bas hm) fun _ _ h => h) d1
    obtain ⟨ra, rb⟩ := rdo h1 (by simp)
    have ko := ho l[i] (List.getElem_mem _)
    generalize l[i] = o at *
    obtain ⟨oa, oc, oe, hov⟩ := ko.arr.shape
    have harr := fun {H' : Heap} {R : List As} (h : Hs H' R) (hm : Bas H ∈ R) => ko.arr.same (h.bas hm) fun _ _ h => h
    have nxt := fun H' h' => hn (by omega) H' h'
    rw [hve] at nxt ⊢
    by_cases hw : o.ws.length ≤ 312
    · rw [hov] at ra rb
      simp -implicitDefEqProofs -dsimp (disch := omega) only [go_sem, dec_t, dec_f, burinlaw10_CompsOf_l0, Int.toNat_natCast, rb, ra]
      rw [← hov]
      refine refOfR hp hl h1 (fun H' h' => harr h' (by simp)) ko.lt ko.w ko.h (by omega) fun wv PW H2 hkw h2 => ?_
      have kok := KO_ok (w := o.w) (h := o.h) (ws := o.ws)
      simp -implicitDefEqProofs -dsimp (disch := omega) only [go_sem, dec_t, dec_f, ]
      refine loop_cnt 2 (fun k => ⟨[(0, .sl (some (vb, vo)) l.length vc' 3), (3, .int .i64 (i : Nat)), (4, wv), (5, .int .i64 (EO o.w o.h o.ws)), (6, .int .i64 (k : Nat))], []⟩) (fun k H' => Hs H' (StP wv PW [Bas H])) (fun k H3 K2 hk h3 hn2 hx2 hr2 => ?_) 0 H2 (by omega) h2
      by_cases hk2 : k < 2
      · have r1 := (rdo h3 (mem_st (by simp))).1
        simp -implicitDefEqProofs -dsimp (disch := omega) only [go_sem, dec_t, dec_f, burinlaw10_CompsOf_l1, Int.toNat_natCast, r1]
        refine lendB_ct hq.kit h3 (fun H' h' => harr h' (mem_st (by simp))) (by omega) fun B H4 h4 => ?_
        have h5 := h4.alloc (l := [.int .i64 o.w, .int .i64 o.h, .sl (some (B, 0)) o.ws.length (o.ws.length + 7) 1])
        have r7 := rd_bm h5 (List.mem_cons_self ..) 3 rfl
        simp -implicitDefEqProofs -dsimp (disch := omega) only [go_sem, dec_t, dec_f, r7]
        generalize H4.new _ = H5 at *
        generalize H4.next = b7 at *
        refine compsOfR hp h5 (fun H' h' => lent_arr h' (by simp)) ko.lt ko.w ko.h fun ov PR H6 hkp h6 => ?_
        obtain ⟨pa, pc, pe, rfl⟩ := st_shape h6
        have h7 := Hs.perm (L' := Lent B o.ws :: StP (.sl pa PR.length pc pe) PR (Cel b7 [.int .i64 o.w, .int .i64 o.h, .sl (some (B, 0)) o.ws.length (o.ws.length + 7) 1] :: StP wv PW [Bas H])) h6 (by
          classical
          refine List.perm_iff_count.2 fun x => ?_
          simp only [StP, List.count_append, List.count_cons]
          ac_rfl)
        have hbm : Bas H ∈ StP (.sl pa PR.length pc pe) PR (Cel b7 [.int .i64 o.w, .int .i64 o.h, .sl (some (B, 0)) o.ws.length (o.ws.length + 7) 1] :: StP wv PW [Bas H]) := mem_st (List.mem_cons_of_mem _ (mem_st (by simp)))
        have r7 := rd_bm h7 (b := b7) (l := [.int .i64 o.w, .int .i64 o.h, .sl (some (B, 0)) o.ws.length (o.ws.length + 7) 1]) (List.mem_cons_of_mem _ (mem_st (by simp))) 3 rfl
        have r1 := (rdo h7 (List.mem_cons_of_mem _ hbm)).1
        simp -implicitDefEqProofs -dsimp (disch := omega) only [go_sem, dec_t, dec_f, Int.toNat_natCast, r1, r7]
        refine backB_ct hq.kit hp.rz h7 (fun H' h' => harr h' hbm) (by omega) fun H7 h8 => ?_
        rw [decide_eq_true ⟨rfl, rfl⟩]
        have lenP : PR.length ≤ 1048576 := by have := congrArg List.length hkp; rw [List.length_map] at this; omega
        have lenW : PW.length ≤ 1048576 := by have := congrArg List.length hkw; rw [List.length_map] at this; omega
        have rp : PcsRd (StP (.sl pa PR.length pc pe) PR (Cel b7 [.int .i64 o.w, .int .i64 o.h, .sl (some (B, 0)) o.ws.length (o.ws.length + 7) 1] :: StP wv PW [Bas H])) (.sl pa PR.length pc pe) (PR.map PcR.toO) := stP_rd (by rw [hkp]; exact kok.2)
        have rw_ : PcsRd (StP (.sl pa PR.length pc pe) PR (Cel b7 [.int .i64 o.w, .int .i64 o.h, .sl (some (B, 0)) o.ws.length (o.ws.length + 7) 1] :: StP wv PW [Bas H])) wv (PW.map PcR.toO) := (stP_rd (T := [Bas H]) (by rw [hkw]; exact kok.2)).mono fun _ h => h.stTail.tail
        obtain ⟨wa, wc, we, rfl⟩ := st_shape h8.stTail.tail
        simp -implicitDefEqProofs -dsimp (disch := omega) only [go_sem, dec_t, dec_f, ]
        refine eqP_ct hp.rz hf h8 rp rw_ (by rw [List.length_map]; omega) (fun q hq => by
          obtain ⟨r, hr, rfl⟩ := List.mem_map.1 hq
          have z := bmSz (h8.ofmem (st_bm hr))
          show (Wds r.p.w r.p.h r.p.p).length ≤ 281474976710656
          rw [Wds_length]
          have := wds_le z.2.2.1 z.1
          omega) fun H8 h9 => ?_
        rw [decide_eq_true (show (PR.map PcR.toO).map PcO.key = (PW.map PcR.toO).map PcO.key by rw [List.map_map, List.map_map]; exact hkp.trans hkw.symm)]
        simp -implicitDefEqProofs -dsimp (disch := omega) only [go_sem, dec_t, dec_f, ]
        refine co_l2 lenP h9 fun av H9 ex h10 => ?_
        have h11 := Hs.perm (L' := PR.map PcR.as ++ (Lst av 3 PR.length (bmc PR) :: Lst (.sl pa PR.length pc pe) 5 PR.length (pcCells PR) :: Cel b7 [.int .i64 o.w, .int .i64 o.h, .sl (some (B, 0)) o.ws.length (o.ws.length + 7) 1] :: StP (.sl wa PW.length wc we) PW [Bas H])) h10 (by
          classical
          refine List.perm_iff_count.2 fun x => ?_
          simp only [StP, List.count_append, List.count_cons]
          ac_rfl)
        obtain ⟨L, M, a1, a2, a3, a4, a5, h12⟩ := ov_conv h11
        simp -implicitDefEqProofs -dsimp (disch := omega) only [go_sem, dec_t, dec_f, ]
        refine over_ct hl.h_burinkit_OverBitmaps (L := L) (by omega) a5 M ⟨by rw [a1, a2], fun j m o hj => absurd hj (Nat.not_lt_zero j), fun j m o _ e1 e2 => a4 j o m e2 e1⟩ h12 (fun H' h' => by rw [a3, a1]; exact h'.own.arr) fun H10 h13 => ?_
        simp -implicitDefEqProofs -dsimp (disch := omega) only [go_sem, dec_t, dec_f, w64, cadd1]
        exact hn2 hk2 H10 h13.tail.tail.tail
      · obtain rfl : k = 2 := by omega
        obtain ⟨wa, wc, we, rfl⟩ := st_shape h3
        simp -implicitDefEqProofs -dsimp (disch := omega) only [go_sem, dec_t, dec_f, burinlaw10_CompsOf_l1]
        rw [hx2]
        simp -implicitDefEqProofs -dsimp (disch := omega) only [go_sem, dec_t, dec_f, w64, cadd1]
        exact nxt H3 h3.stTail
    · rw [hov] at rb
      simp -implicitDefEqProofs -dsimp (disch := omega) only [go_sem, dec_t, dec_f, burinlaw10_CompsOf_l0, Int.toNat_natCast, rb, w64, cadd1]
      exact nxt H1 h1
  · rw [hvs]
    rcases (show ¬ i < l.length ∨ (i < l.length ∧ ¬ i < 5) by omega) with d | d <;>
    · simp -implicitDefEqProofs -dsimp (disch := omega) only [go_sem, dec_t, dec_f, burinlaw10_CompsOf_l0]
      rw [hx]
      simp -implicitDefEqProofs -dsimp (disch := omega) only [go_sem, dec_t, dec_f, ]
      refine wakes10_ct hp.bm hp.rz hp.ru hp.co hp.w h1 fun H4 _ => ?_
      simp -implicitDefEqProofs -dsimp (disch := omega) only [go_sem, dec_t, dec_f, ]
end
theorem law_CompsOf {P : Prog} (hp : HasL10 P) (hq : HasL2 P) (hf : HasRfc P) (hl : HasL10Of P) (H : Heap) (cs : List V) (x : TD.Ty (.sl 40 bmTD)) (h : Is H (.sl 40 bmTD) cs x) : Call P 183 [argV (.sl 40 bmTD) cs] H fun o _ => o = .ret (.bool true) := by
  obtain ⟨v, l, rfl, k1, k2, k3⟩ := is_bms h
  exact compsOfL hp hq hf hl k1 k2 k3
end Go.Ab
