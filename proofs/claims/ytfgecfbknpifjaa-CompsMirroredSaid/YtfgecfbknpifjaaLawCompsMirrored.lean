/- The law CompsMirrored. Conditions: none. -/
import Derived.Test.YtfgecfbknpifjaaPy
import Derived.Test.YtfgecfbknpifjaaPL10Mirrored
import Derived.Test.YtfgecfbknpifjaaC5
set_option linter.all false
namespace Go.Ab
section
variable {P : Prog} {H0 H : Heap} {o : BmO} {v : V}
def blV (U : List Bool) : List V := U.map V.bool
theorem blV_set (U : List Bool) (k : Nat) : (blV U).set k (.bool true) = blV (U.set k true) := by simp [blV, List.map_set]
theorem blV_len (U : List Bool) : (blV U).length = U.length := by simp [blV]
structure MiS where
  k : Nat
  f : Bool
  U : List Bool
set_option maxRecDepth 20000 in
set_option maxHeartbeats 2000000 in
theorem mi_l1 (hp : HasRz P) {Q : Post} {t : Tag Q} {s : Tag burinlaw10_CompsMirrored_l1} {b ub tb i : Nat} {lv rv tv ov : V} {L M : List PcO} {TT : List As} {U0 : List Bool} {w h x y pw ph : Int} {ows ws : List Nat} (hi : i < L.length) (eL : L[i] = ⟨x, y, pw, ph, ov, ows⟩) (hL : L.length ≤ 1048576) (hlen : M.length ≤ 1048576) (hU : U0.length = M.length)
    (hbx : 0 ≤ x ∧ 0 ≤ pw ∧ x + pw ≤ w ∧ w ≤ 1048576) (hb : Cel b [.int .i64 w, .int .i64 h, v] ∈ TT) (ht : Cel tb [.int .i64 pw, .int .i64 ph, tv] ∈ TT) (htv : ∀ H, Hs H TT → Arr H tv 1 ws.length (u64s ws)) (hl : PcsRd TT lv L) (hr : PcsRd TT rv M) (hmw : ∀ q ∈ M, q.ws.length ≤ 1048576)
    (hex : ∃ k0, ∃ h0 : k0 < M.length, U0[k0]? = some false ∧ M[k0].key = (w - x - pw, y, pw, ph, ws)) (hs : Hs H (Cel ub (blV U0) :: TT))
    (hK : ∀ k0 H' ex, (h0 : k0 < M.length) → M[k0].key = (w - x - pw, y, pw, ph, ws) → Hs H' (Cel ub (blV (U0.set k0 true)) :: TT) →
      Q (.exit 2) ⟨(1, .ptr (some (b, 0))) :: (5, lv) :: (7, rv) :: (9, .sl (some (ub, 0)) M.length M.length 1) :: (10, .int .i64 (i : Nat)) :: (11, .ptr (some (tb, 0))) :: (12, .bool true) :: ex, []⟩ H') :
    loopL (Call P) [1, 5, 7, 9, 10, 11, 12, 13] burinlaw10_CompsMirrored_l1 Q t s ⟨[(1, .ptr (some (b, 0))), (5, lv), (7, rv), (9, .sl (some (ub, 0)) M.length M.length 1), (10, .int .i64 (i : Nat)), (11, .ptr (some (tb, 0))), (12, .bool false), (13, .int .i64 ((0 : Nat) : Int))], []⟩ H := by
  obtain ⟨ra, rc, re, rfl⟩ := (hr.arr H hs.tail).shape
  obtain ⟨la, lc, le, rfl⟩ := (hl.arr H hs.tail).shape
  refine loop_dec (σ := MiS) (fun x => M.length - x.k) (fun x => ⟨[(1, .ptr (some (b, 0))), (5, .sl la L.length lc le), (7, .sl ra M.length rc re), (9, .sl (some (ub, 0)) M.length M.length 1), (10, .int .i64 (i : Nat)), (11, .ptr (some (tb, 0))), (12, .bool x.f), (13, .int .i64 (x.k : Nat))], []⟩)
    (fun z H => z.k ≤ M.length ∧ (z.f = false → z.U = U0 ∧ ∀ k' (h' : k' < M.length), k' < z.k → U0[k']? = some false → ¬ M[k'].key = (w - x - pw, y, pw, ph, ws)) ∧ (z.f = true → ∃ k0, ∃ h0 : k0 < M.length, M[k0].key = (w - x - pw, y, pw, ph, ws) ∧ z.U = U0.set k0 true) ∧ Hs H (Cel ub (blV z.U) :: TT))
    (fun z H1 K ⟨hk, hf, htr, h1⟩ hn hx hrr => ?_) ⟨0, false, U0⟩ H ⟨Nat.zero_le _, fun _ => ⟨rfl, fun k' _ hk' => absurd hk' (Nat.not_lt_zero _)⟩, fun e => (Bool.false_ne_true e).elim, hs⟩
  obtain ⟨k, f, U⟩ := z
  dsimp only at hk hf htr h1 hn
  cases f with
  | true =>
    obtain ⟨k0, h0, hfit, rfl⟩ := htr rfl
    by_cases hlt : k < M.length
    · simp -implicitDefEqProofs -dsimp (disch := omega) only [go_sem, dec_t, dec_f, burinlaw10_CompsMirrored_l1]
      rw [hx]
      exact hK k0 H1 _ h0 hfit h1
    · simp -implicitDefEqProofs -dsimp (disch := omega) only [go_sem, dec_t, dec_f, burinlaw10_CompsMirrored_l1]
      rw [hx]
      exact hK k0 H1 _ h0 hfit h1
  | false =>
    obtain ⟨rfl, hno⟩ := hf rfl
    by_cases hlt : k < M.length
    · have cu := rd_s h1.cel k
      have eu : (blV U)[k]? = some (.bool U[k]) := by simp [blV, hU, hlt]
      rw [eu] at cu
      have eU : U[k]? = some U[k] := List.getElem?_eq_getElem (by omega)
      have go : ∀ H2, Hs H2 (Cel ub (blV U) :: TT) → (U[k]? = some false → ¬ M[k].key = (w - x - pw, y, pw, ph, ws)) → K .normal ⟨[(1, .ptr (some (b, 0))), (5, .sl la L.length lc le), (7, .sl ra M.length rc re), (9, .sl (some (ub, 0)) M.length M.length 1), (10, .int .i64 (i : Nat)), (11, .ptr (some (tb, 0))), (12, .bool false), (13, .int .i64 ((k + 1 : Nat) : Int))], []⟩ H2 := fun H2 h2 hnk =>
        hn ⟨k + 1, false, U⟩ H2 (by dsimp only; omega) ⟨hlt, fun _ => ⟨rfl, fun k' h' hk' hu => by
          rcases Nat.lt_or_ge k' k with c | c
          · exact hno k' h' c hu
          · obtain rfl : k' = k := by dsimp only at hk'; omega
            exact hnk hu⟩, fun e => (Bool.false_ne_true e).elim, h2⟩
      generalize U[k] = u at cu eU
      obtain ⟨xb, xo, xc, ev, r1, r2, r3⟩ := po_rd (hr.arr H1 h1.tail) hlt
      cases ev
      obtain ⟨yb, yo, yc, ev, s1, s2, s3⟩ := po_rd (hl.arr H1 h1.tail) hi
      cases ev
      have hm := List.getElem_mem hlt
      have hq1 := hr.bits _ hm H1 h1.tail
      have hq2 := hmw _ hm
      have yes : ∀ H2, Hs H2 (Cel ub (blV U) :: TT) → M[k].key = (w - x - pw, y, pw, ph, ws) → ∃ H3, wr H2 ub k [.bool true] = some H3 ∧ K .normal ⟨[(1, .ptr (some (b, 0))), (5, .sl (some (yb, yo)) L.length lc 5), (7, .sl (some (xb, xo)) M.length rc 5), (9, .sl (some (ub, 0)) M.length M.length 1), (10, .int .i64 (i : Nat)), (11, .ptr (some (tb, 0))), (12, .bool true), (13, .int .i64 ((k + 1 : Nat) : Int))], []⟩ H3 := fun H2 h2 hfit => by
        obtain ⟨H3, w3, h3⟩ := Hs.sto 0 h2 rfl (o := k) (vs := [.bool true]) (by rw [blV_len]; simp only [List.length_cons, List.length_nil]; omega) rfl
        rw [over_one (by rw [blV_len]; omega), blV_set] at h3
        exact ⟨H3, w3, hn ⟨k + 1, true, U.set k true⟩ H3 (by dsimp only; omega) ⟨hlt, fun e => (Bool.false_ne_true e.symm).elim, fun _ => ⟨k, hlt, hfit, rfl⟩, h3⟩⟩
      rw [eL] at s1 s2 s3
      generalize M[k] = q at r1 r2 r3 hq1 hq2 go yes
      obtain ⟨qx, qy, qw, qh, qv, qws⟩ := q
      dsimp only at hq1 hq2 r3
      have a0 := r2 0 (by omega)
      have a1 := r2 1 (by omega)
      have b0 := s2 0 (by omega)
      have b1 := s2 1 (by omega)
      have b2 := s2 2 (by omega)
      have cb := rd_s (h1.tail.celm hb)
      have ct := rd_bm h1.tail ht 3 rfl
      rw [Nat.add_zero] at a0 b0
      cases u with
      | true =>
        simp -implicitDefEqProofs -dsimp (disch := omega) only [go_sem, dec_t, dec_f, burinlaw10_CompsMirrored_l1, Int.toNat_natCast, Nat.mul_one, cu, d_gre, w64, cadd1]
        exact go H1 h1 (fun e => by rw [eU] at e; cases e)
      | false =>
      by_cases ey : qy = y
      · subst ey
        by_cases ex : qx = w - x - pw
        · simp -implicitDefEqProofs -dsimp (disch := omega) only [go_sem, dec_t, dec_f, burinlaw10_CompsMirrored_l1, Int.toNat_natCast, Nat.mul_one, cu, d_gre, w64, cadd1, a0, a1, b0, b1, b2, r3, cb, ct, PcO.cs]
          refine eqb_ct hp h1 hq1 (htv H1 h1.tail) (by omega) fun H2 h2 _ => ?_
          by_cases ee : qw = pw ∧ qh = ph ∧ qws = ws
          · rw [decide_eq_true ee]
            obtain ⟨rfl, rfl, rfl⟩ := ee
            obtain ⟨H3, w3, h3⟩ := yes H2 h2 (by simp only [PcO.key, ex])
            simp -implicitDefEqProofs -dsimp (disch := omega) only [go_sem, dec_t, dec_f, Int.toNat_natCast, Nat.mul_one, w3, w64, cadd1]
            exact h3
          · rw [decide_eq_false ee]
            simp -implicitDefEqProofs -dsimp (disch := omega) only [go_sem, dec_t, dec_f, w64, cadd1]
            exact go H2 h2 (fun _ e => by simp only [PcO.key, Prod.mk.injEq] at e; exact ee e.2.2)
        · simp -implicitDefEqProofs -dsimp (disch := omega) only [go_sem, dec_t, dec_f, burinlaw10_CompsMirrored_l1, Int.toNat_natCast, Nat.mul_one, cu, d_gre, w64, cadd1, a0, a1, b0, b1, b2, cb, ct, PcO.cs]
          exact go H1 h1 (fun _ e => by simp only [PcO.key, Prod.mk.injEq] at e; exact ex e.1)
      · simp -implicitDefEqProofs -dsimp (disch := omega) only [go_sem, dec_t, dec_f, burinlaw10_CompsMirrored_l1, Int.toNat_natCast, Nat.mul_one, cu, d_gre, w64, cadd1, a0, a1, b0, b1, cb, ct, PcO.cs]
        exact go H1 h1 (fun _ e => by simp only [PcO.key, Prod.mk.injEq] at e; exact ey e.2.1)
    · obtain ⟨k0, h0, hu, hfit⟩ := hex
      exact absurd hfit (hno k0 h0 (by omega) hu)
set_option maxHeartbeats 2000000 in
theorem mi_l0 (hp : HasL10 P) (hf : HasRef2 P) {Q : Post} {t : Tag Q} {s : Tag burinlaw10_CompsMirrored_l0} {b ub : Nat} {lv rv : V} {PR PS : List PcR} {TT : List As} {w h : Nat} {p : Nat → Nat → Bool} (hPR : PR.map PcR.p = pcsOf p w h) (hPS : PS.map PcR.p = pcsOf (mir w p) w h)
    (ha : w * h ≤ 1048576) (hw : w ≤ 1048576) (hh : h ≤ 1048576) (hlen : PS.length ≤ 1048576) (hb : Cel b [.int .i64 (w : Nat), .int .i64 (h : Nat), v] ∈ TT) (hl : PcsRd TT lv (PR.map PcR.toO)) (hr : PcsRd TT rv (PS.map PcR.toO)) (hbm : ∀ r ∈ PR, BmA r.v r.p.w r.p.h r.p.p ∈ TT)
    (hs : Hs H (Cel ub (blV (List.replicate PS.length false)) :: TT)) (hK : ∀ H' ex, Hs H' TT → Q (.exit 0) ⟨(1, .ptr (some (b, 0))) :: ex, []⟩ H') :
    loopL (Call P) [1, 5, 7, 9, 10] burinlaw10_CompsMirrored_l0 Q t s ⟨[(1, .ptr (some (b, 0))), (5, lv), (7, rv), (9, .sl (some (ub, 0)) PS.length PS.length 1), (10, .int .i64 ((0 : Nat) : Int))], []⟩ H := by
  have hlL : PR.length = PS.length := by
    have h1 := congrArg List.length hPR
    have h2 := congrArg List.length hPS
    rw [List.length_map] at h1 h2
    rw [h1, h2, mir_len]
  obtain ⟨la, lc, le, hlv⟩ := (hl.arr H hs.tail).shape
  rw [List.length_map] at hlv
  subst hlv
  refine loop_cnt PR.length (fun i => ⟨[(1, .ptr (some (b, 0))), (5, .sl la PR.length lc le), (7, rv), (9, .sl (some (ub, 0)) PS.length PS.length 1), (10, .int .i64 (i : Nat))], []⟩)
    (fun i H => ∃ U : List Bool, U.length = PS.length ∧ (∀ (k : Nat) (Q : PcP), (pcsOf (mir w p) w h)[k]? = some Q → U[k]? = some true → ∃ (i' : Nat) (P : PcP), i' < i ∧ (pcsOf p w h)[i']? = some P ∧ Q.key = (P.mir w).key) ∧ Hs H (Cel ub (blV U) :: TT))
    (fun i H1 K hi ⟨U, hU, hinv, h1⟩ hn hx hrr => ?_) 0 H (Nat.zero_le _) ⟨List.replicate PS.length false, List.length_replicate, (fun k Q _ hu => by
      rw [List.getElem?_replicate] at hu
      split at hu <;> cases hu), hs⟩
  by_cases hlt : i < PR.length
  · have hat : (pcsOf p w h)[i]? = some PR[i].p := by rw [← hPR, List.getElem?_map, List.getElem?_eq_getElem hlt]; rfl
    have hlt' : i < (PR.map PcR.toO).length := by rw [List.length_map]; exact hlt
    obtain ⟨yb, yo, yc, ev, s1, s2, s3⟩ := po_rd (hl.arr H1 h1.tail) hlt'
    have hmm := List.getElem_mem hlt
    have eL : (PR.map PcR.toO)[i] = PR[i].toO := List.getElem_map ..
    rw [eL] at s1 s2 s3
    rw [List.length_map] at ev
    cases ev
    have hbmi := hbm _ hmm
    have hmp := List.mem_of_getElem? hat
    have hpin := pcs_in hmp
    have hmay := pcs_may hmp ha
    have hmir := mir_piece hat
    have minj := fun j Q (e : (pcsOf p w h)[j]? = some Q) => mir_inj hat e
    generalize PR[i] = r at *
    obtain ⟨⟨x, y, pw, ph, pp⟩, rv'⟩ := r
    dsimp only [PcR.toO] at *
    obtain ⟨k1, k2, k3, k4, k5, k6, k7⟩ := hpin
    dsimp only at k1 k2 k3 k4 k5 k6 k7
    have arr := h1.tail.bmarr hbmi
    obtain ⟨va, vc, ve, hv⟩ := arr.shape
    subst hv
    simp -implicitDefEqProofs -dsimp (disch := omega) only [go_sem, dec_t, dec_f, burinlaw10_CompsMirrored_l0, Int.toNat_natCast, s3]
    refine may_ct hp.rz h1 arr (Wds_lt _ _ _) (by unfold i64r; omega) (by unfold i64r; omega) fun bb H2 hbb h2 _ => ?_
    rw [hbb.2 hmay]
    obtain ⟨yb', yo', yc', ev, s1, s2, s3⟩ := po_rd (hl.arr H2 h2.tail) hlt'
    rw [eL] at s1 s2 s3
    rw [List.length_map] at ev
    cases ev
    dsimp only at s3
    simp -implicitDefEqProofs -dsimp (disch := omega) only [go_sem, dec_t, dec_f, Int.toNat_natCast, s3]
    have z1 : 1 ≤ pw ∧ 1 ≤ ph ∧ pw * ph ≤ 1048576 := ⟨k5, k6, by omega⟩
    refine mirrorB_ct hf hp.rz h2 (src_bm z1 (List.mem_cons_of_mem _ hbmi)) fun tv H3 h3 => ?_
    obtain ⟨ta, tn, tc, te, rfl⟩ : ∃ a n c e, tv = V.sl a n c e := by obtain ⟨vb, kv⟩ := bmV h3; exact ⟨_, _, _, _, kv.val⟩
    have h4 := h3.alloc (l := [.int .i64 (pw : Nat), .int .i64 (ph : Nat), .sl ta tn tc te])
    simp -implicitDefEqProofs -dsimp (disch := omega) only [go_sem, dec_t, dec_f, ]
    generalize H3.new _ = H4 at *
    generalize H3.next = tb at *
    obtain ⟨k0, Q, e0, ek⟩ := hmir
    have hk0 : k0 < PS.length := by
      have := (List.getElem?_eq_some_iff.1 e0).1
      rw [← hPS, List.length_map] at this; exact this
    have hQ0 : (PS.map PcR.toO)[k0]'(by rw [List.length_map]; exact hk0) = PS[k0].toO := List.getElem_map ..
    have eQ : PS[k0].p = Q := by
      rw [← hPS, List.getElem?_map, List.getElem?_eq_getElem hk0] at e0
      exact Option.some.inj e0
    have hex : ∃ k0, ∃ h0 : k0 < (PS.map PcR.toO).length, U[k0]? = some false ∧ (PS.map PcR.toO)[k0].key = ((w : Int) - x - (pw : Nat), y, ((pw : Nat) : Int), ((ph : Nat) : Int), Wds pw ph (fun i j => pp (pw - 1 - i) j)) := by
      refine ⟨k0, by rw [List.length_map]; exact hk0, ?_, ?_⟩
      · cases c : U[k0]? with
        | none => rw [List.getElem?_eq_none_iff] at c; omega
        | some u =>
          cases u with
          | false => rfl
          | true =>
            obtain ⟨i', P', h1', h2', h3'⟩ := hinv k0 Q e0 c
            have := minj i' P' h2' (ek.symm.trans h3')
            omega
      · rw [hQ0, toO_key, eQ, ek]; rfl
    have h5 := h4.p2
    rw [show PS.length = (PS.map PcR.toO).length from (List.length_map ..).symm]
    refine mi_l1 (M := PS.map PcR.toO) (L := PR.map PcR.toO) (b := b) (tb := tb) (i := i) (x := x) (y := y) (pw := (pw : Nat)) (ph := (ph : Nat)) (w := (w : Nat)) (h := (h : Nat)) (ws := Wds pw ph (fun i j => pp (pw - 1 - i) j)) (lv := .sl (some (yb, yo)) PR.length lc 5) (rv := rv) (tv := .sl ta tn tc te) (v := v) (U0 := U) (TT := Cel tb [.int .i64 (pw : Nat), .int .i64 (ph : Nat), .sl ta tn tc te] :: BmA (.sl ta tn tc te) pw ph (fun i j => pp (pw - 1 - i) j) :: TT) hp.rz hlt' eL (by rw [List.length_map]; omega) (by rw [List.length_map]; omega) (by rw [List.length_map]; omega) (by omega) (List.mem_cons_of_mem _ (List.mem_cons_of_mem _ hb)) (List.mem_cons_self ..) (fun H' h' => h'.bmarr (List.mem_cons_of_mem _ (List.mem_cons_self ..))) (hl.mono fun _ h => h.tail.tail) (hr.mono fun _ h => h.tail.tail) (fun q hq => by
      obtain ⟨r, hr, rfl⟩ := List.mem_map.1 hq
      have hm : r.p ∈ pcsOf (mir w p) w h := by rw [← hPS]; exact List.mem_map_of_mem hr
      have k := pcs_in hm
      show (Wds r.p.w r.p.h r.p.p).length ≤ 1048576
      rw [Wds_length]
      exact wds_le (Nat.le_trans k.area ha) k.w1) hex h5 fun k1 H5 ex h01 hfit h6 => ?_
    have h7 := h6.p1.tail.p1.tail
    rw [List.length_map]
    simp -implicitDefEqProofs -dsimp (disch := omega) only [go_sem, dec_t, dec_f, w64, cadd1]
    refine hn hlt H5 ⟨U.set k1 true, by rw [List.length_set, hU], fun k Q' e' hu => ?_, h7⟩
    by_cases c : k1 = k
    · subst c
      refine ⟨i, _, Nat.lt_succ_self i, hat, ?_⟩
      have l1 : k1 < PS.length := by rw [List.length_map] at h01; exact h01
      have e1 : (PS.map PcR.toO)[k1]'h01 = PS[k1].toO := List.getElem_map ..
      rw [← hPS, List.getElem?_map, List.getElem?_eq_getElem l1] at e'
      have e2 : PS[k1].p = Q' := Option.some.inj e'
      rw [e1, toO_key, e2] at hfit
      exact hfit
    · rw [List.getElem?_set, if_neg c] at hu
      obtain ⟨i', P', g1, g2, g3⟩ := hinv k Q' e' hu
      exact ⟨i', P', by omega, g2, g3⟩
  · obtain rfl : i = PR.length := by omega
    simp -implicitDefEqProofs -dsimp (disch := omega) only [go_sem, dec_t, dec_f, burinlaw10_CompsMirrored_l0]
    rw [hx]
    exact hK H1 _ h1.tail
theorem reps_bl : ∀ n, reps [.bool false] n = blV (List.replicate n false)
  | 0 => rfl
  | n + 1 => by rw [reps, reps_bl n, List.replicate_succ]; rfl
set_option maxRecDepth 20000 in
set_option maxHeartbeats 2000000 in
theorem compsMirrored (hp : HasL10 P) (hq : HasL2 P) (hf : HasRef2 P) (hg : P 198 = some burinlaw10_CompsMirrored) (k : BmOk H o) : Call P 198 [.agg [.int .i64 o.w, .int .i64 o.h, o.v]] H fun o _ => o = .ret (.bool true) := by
  refine call_of hg rfl ?_
  have h1 := (Hs.start H).alloc (l := [.int .i64 o.w, .int .i64 o.h, o.v])
  have r1 := rd_bm h1 (List.mem_cons_self ..) 3 rfl
  simp -implicitDefEqProofs -dsimp (disch := omega) only [go_sem, dec_t, dec_f, ]
  generalize H.new _ = H1 at *
  generalize H.next = b at *
  simp -implicitDefEqProofs -dsimp (disch := omega) only [go_sem, dec_t, dec_f, r1]
  refine mayO9 hp k h1 (by simp) fun mb H2 hm h2 => ?_
  cases mb with
  | false =>
    simp -implicitDefEqProofs -dsimp (disch := omega) only [go_sem, dec_t, dec_f, ]
    refine wakes10_ct hp.bm hp.rz hp.ru hp.co hp.w h2 fun H3 h3 => ?_
    simp -implicitDefEqProofs -dsimp (disch := omega) only [go_sem, dec_t, dec_f, ]
  | true =>
  have may := hm.1 rfl
  have mm := bmM_of k may
  obtain ⟨le1, le2⟩ := BmM.le mm
  have hc := rd_bm h2 (List.mem_cons_self ..) 3 rfl
  have hcs := rd_s h2.cel
  have em : o.w * o.h = ((o.hn * o.wn : Nat) : Int) := by rw [mm.w, mm.h, ← Int.natCast_mul, Nat.mul_comm]
  have ha : o.wn * o.hn ≤ 1048576 := mm.area
  have ha' : o.hn * o.wn ≤ 1048576 := by rw [Nat.mul_comm]; exact mm.area
  by_cases big : o.hn * o.wn > 3000
  · simp -implicitDefEqProofs -dsimp (disch := omega) only [go_sem, dec_t, dec_f, hcs, w64, em]
    refine wakes10_ct hp.bm hp.rz hp.ru hp.co hp.w h2 fun H3 h3 => ?_
    simp -implicitDefEqProofs -dsimp (disch := omega) only [go_sem, dec_t, dec_f, ]
  have h3 := h2.alloc (l := [.int .i64 o.w, .int .i64 o.h, o.v])
  simp -implicitDefEqProofs -dsimp (disch := omega) only [go_sem, dec_t, dec_f, hc, hcs, w64, em]
  generalize H2.new _ = H3 at *
  generalize H2.next = bx at *
  refine small9 hq k h3.cel ?_
  have h4 := h3.tail
  have c4 := rd_bm h4 (List.mem_cons_self ..) 3 rfl
  by_cases hsm : 64 * o.ws.length + 64 ≤ 20000
  rotate_left
  · rw [decide_eq_false hsm]
    simp -implicitDefEqProofs -dsimp (disch := omega) only [go_sem, dec_t, dec_f, ]
    refine wakes10_ct hp.bm hp.rz hp.ru hp.co hp.w h4 fun H3 h3 => ?_
    simp -implicitDefEqProofs -dsimp (disch := omega) only [go_sem, dec_t, dec_f, ]
  rw [decide_eq_true hsm]
  simp -implicitDefEqProofs -dsimp (disch := omega) only [go_sem, dec_t, dec_f, c4]
  refine fromO hq k may h4 (by simp) fun m H5 h5 => ?_
  simp -implicitDefEqProofs -dsimp (disch := omega) only [go_sem, dec_t, dec_f, ]
  refine mirror_ct hp.bm h5 fun c1 H6 h6 => ?_
  have h7 := h6.tail
  have c7 := rd_bm h7 (b := b) (l := [.int .i64 o.w, .int .i64 o.h, o.v]) (by simp) 3 rfl
  simp -implicitDefEqProofs -dsimp (disch := omega) only [go_sem, dec_t, dec_f, c7]
  refine ofO hp k may h7 (by simp) fun lv PR H8 hPR h8 => ?_
  obtain ⟨la, lc, le, rfl⟩ := st_shape h8
  have h9 := Hs.perm (L' := MapA m o.wn o.hn o.px :: StP (.sl la PR.length lc le) PR [Cel b [.int .i64 o.w, .int .i64 o.h, o.v], Bas H]) h8 (by
    classical
    refine List.perm_iff_count.2 fun x => ?_
    simp only [StP, List.count_append, List.count_cons]
    ac_rfl)
  simp -implicitDefEqProofs -dsimp (disch := omega) only [go_sem, dec_t, dec_f, ]
  refine mirror_ct hp.bm h9 fun c2 H9 h10 => ?_
  have mz := mapSz0 h10
  simp -implicitDefEqProofs -dsimp (disch := omega) only [go_sem, dec_t, dec_f, ]
  refine plain_ct hp.bm h10 fun pv H10 h11 _ => ?_
  have h12 := bmA_of h11 mz
  simp -implicitDefEqProofs -dsimp (disch := omega) only [go_sem, dec_t, dec_f, ]
  refine ofB hp h12 (List.mem_cons_self ..) fun rv PS H11 hPS h13 => ?_
  have hPS : PS.map PcR.p = pcsOf (mir o.wn o.px) o.wn o.hn := hPS
  obtain ⟨ra, rc, re, rfl⟩ := st_shape h13
  have lP : PR.length = PS.length := by
    have h1 := congrArg List.length hPR
    have h2 := congrArg List.length hPS
    rw [List.length_map] at h1 h2
    rw [h1, h2, mir_len]
  have hlen : PS.length ≤ 1048576 := by
    have e1 := congrArg List.length hPS
    rw [List.length_map] at e1
    have e2 := pcs_len (p := mir o.wn o.px) (w := o.wn) (h := o.hn)
    have e3 := cnt2_le o.wn (mir o.wn o.px) o.hn
    omega
  have h14 := h13.alloc (l := blV (List.replicate PS.length false))
  rw [lP]
  simp -implicitDefEqProofs -dsimp (disch := omega) only [go_sem, dec_t, dec_f, Int.toNat_natCast, reps_bl]
  generalize H11.new _ = H12 at *
  generalize H11.next = ub at *
  rw [show V.sl la PS.length lc le = V.sl la PR.length lc le by rw [lP]]
  have mb : Cel b [.int .i64 (o.wn : Nat), .int .i64 (o.hn : Nat), o.v] ∈ StP (.sl ra PS.length rc re) PS (BmA pv o.wn o.hn (fun i j => o.px (o.wn - 1 - i) j) :: MapA c2 o.wn o.hn (fun i j => o.px (o.wn - 1 - i) j) :: MapA m o.wn o.hn o.px :: StP (.sl la PR.length lc le) PR [Cel b [.int .i64 o.w, .int .i64 o.h, o.v], Bas H]) := by
    rw [← mm.w, ← mm.h]; simp [StP]
  refine mi_l0 hp hf hPR hPS ha le1 le2 hlen mb ((st_rd hPR le1 le2).mono fun _ h => h.stTail.tail.tail.tail) (st_rd hPS le1 le2) (fun r hr => List.mem_cons_of_mem _ (List.mem_append_right _ (List.mem_cons_of_mem _ (List.mem_cons_of_mem _ (List.mem_cons_of_mem _ (st_bm hr)))))) h14 fun H13 ex h15 => ?_
  simp -implicitDefEqProofs -dsimp (disch := omega) only [go_sem, dec_t, dec_f, ]
  refine wakes10_ct hp.bm hp.rz hp.ru hp.co hp.w h15 fun H3 h3 => ?_
  simp -implicitDefEqProofs -dsimp (disch := omega) only [go_sem, dec_t, dec_f, ]
end
theorem law_CompsMirrored {P : Prog} (hp : HasL10 P) (hq : HasL2 P) (hf : HasRef2 P) (hg : P 198 = some burinlaw10_CompsMirrored) (H : Heap) (cs : List V) (x : TD.Ty bmTD) (h : Is H bmTD cs x) : Call P 198 [argV bmTD cs] H fun o _ => o = .ret (.bool true) := by
  obtain ⟨d, rfl, k⟩ := is_bm h
  exact compsMirrored hp hq hf hg k
end Go.Ab
