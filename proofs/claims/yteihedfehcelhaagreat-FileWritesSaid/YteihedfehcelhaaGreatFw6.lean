/- Parts of a proof over an abstract machine: Fo, Ff, Fg, Fh, PRf17, Fi, Fj, Fk, Fl, Fm, Fn, Fp, LawFileWrites, At, PW17. Conditions: none. -/
import Derived.Test.YteihedfehcelhaaGreatFw1
import Derived.Test.YteihedfehcelhaaGreatFw2
import Derived.Test.YteihedfehcelhaaGreatFw3
import Derived.Test.YteihedfehcelhaaGreatFw4
import Derived.Test.YteihedfehcelhaaGreatFw5
set_option linter.all false
namespace Go.Ab
section
variable {P : Prog} {H : Heap} {R : List As} {Q : Out → Heap → Prop}
structure Lgt (l : List SgO) : Prop where
  len : l.length ≤ 20000
  ok : ∀ s ∈ ss l, s.refs.length ≤ 20000 ∧ s.data.length ≤ 20000
def lgF (v : V) (x : Nat × Nat) : Fr := ⟨[(0, v), (3, .int .i64 (x.2 : Nat)), (4, .int .i64 (x.1 : Nat))], []⟩
theorem light_ct (hg : P 233 = some burinlaw17_light) {v : V} {l : List SgO} (hv : FlR H v l) (hl : l.length ≤ 140737488355328) (hQ : ∀ b : Bool, (b = true → Lgt l) → Q (.ret (.bool b)) H) : Call P 233 [v] H Q := by
  refine call_of hg rfl ?_
  simp -implicitDefEqProofs -dsimp (disch := omega) only [go_sem, dec_t, dec_f, ]
  refine loop_dec (σ := Nat × Nat) (fun x => l.length - x.1) (lgF v) (fun x H' => H' = H ∧ x.1 ≤ l.length ∧ x.1 ≤ x.2 ∧ x.2 ≤ 20000 ∧ ∀ s ∈ (ss l).take x.1, s.refs.length ≤ 20000 ∧ s.data.length ≤ 20000) (fun x H' K ok hn hx hy => ?_) (0, 0) H ⟨rfl, Nat.zero_le _, Nat.le_refl _, by simp, by simp⟩
  obtain ⟨i, n⟩ := x
  obtain ⟨rfl, hi, hin, hn2, hall⟩ := ok
  dsimp only at hi hin hn2 hall hn
  unfold lgF
  by_cases hlt : i < l.length
  rotate_left
  · have : i = l.length := by omega
    subst this
    rw [List.take_of_length_le (by simp)] at hall
    obtain ⟨a, c, e, rfl⟩ := hv.arr.shape
    simp -implicitDefEqProofs -dsimp (disch := omega) only [go_sem, dec_t, dec_f, burinlaw17_light_l0]
    rw [hx]
    simp -implicitDefEqProofs -dsimp (disch := omega) only [go_sem, dec_t, dec_f, ]
    exact hQ true fun _ => ⟨by omega, hall⟩
  obtain ⟨vb, vo, vc, rfl, r7, rk, sok⟩ := hv.at hlt
  have ht : (ss l).take (i + 1) = (ss l).take i ++ [l[i].s] := by rw [List.take_succ_eq_append_getElem (by simpa using hlt), List.getElem_map]
  have r3 := rk 3 (by omega)
  have r6 := rk 6 (by omega)
  have hn := fun m => hn (i + 1, m) H' (by dsimp only; omega)
  dsimp only at hn
  rw [ht] at hn
  generalize l[i] = q at *
  obtain ⟨s, v1, v2, v3⟩ := q
  unfold SgO.cs at r3 r6
  unfold SgOk at sok
  dsimp only at r3 r6 sok hn
  obtain ⟨a1, z1, e1, hs1⟩ := sok.refs.shape
  obtain ⟨a3, z3, e3, hs3⟩ := sok.data.shape
  subst hs1 hs3
  rw [show ∀ u1 u2 u3, (s.cells u1 u2 u3)[3]? = some u1 from fun _ _ _ => rfl] at r3
  rw [show ∀ u1 u2 u3, (s.cells u1 u2 u3)[6]? = some u3 from fun _ _ _ => rfl] at r6
  have l1 := sok.ok.l1
  have l3 := sok.ok.l3
  have ek : (n : Int) + 1 + s.data.length + s.refs.length = ((n + 1 + s.data.length + s.refs.length : Nat) : Int) := by omega
  by_cases k : n + 1 + s.data.length + s.refs.length ≤ 20000
  · simp -implicitDefEqProofs -dsimp (disch := omega) only [go_sem, dec_t, dec_f, burinlaw17_light_l0, Int.toNat_natCast, r3, r6, w64, ek, cadd1]
    refine hn _ ⟨rfl, by omega, by omega, k, fun t ht' => ?_⟩
    rcases List.mem_append.1 ht' with h | h
    · exact hall t h
    · rw [List.mem_singleton.1 h]; omega
  · simp -implicitDefEqProofs -dsimp (disch := omega) only [go_sem, dec_t, dec_f, burinlaw17_light_l0, Int.toNat_natCast, r3, r6, w64, ek]
    rw [hy]
    simp -implicitDefEqProofs -dsimp (disch := omega) only [go_sem, dec_t, dec_f, ]
    exact hQ false fun h => by cases h
/-- A segment's lists, one's own. -/
def prt (o : SgO) : List As := [Lst o.v1 1 o.s.refs.length (i64s o.s.refs), Lst o.v2 1 o.s.keep.length (bools o.s.keep), Lst o.v3 1 o.s.data.length (u8s o.s.data)]
theorem flR_own {v : V} {l : List SgO} (hk : ∀ o ∈ l, o.s.Ok) {H' : Heap} (h : Hs H' (Lst v 7 l.length (sgCells l) :: (l.flatMap prt ++ R))) : FlR H' v l :=
  ⟨h.own.arr, fun o ho => by
    have hm : ∀ A ∈ prt o, A ∈ Lst v 7 l.length (sgCells l) :: (l.flatMap prt ++ R) := fun A hA => List.mem_cons_of_mem _ (List.mem_append_left _ (List.mem_flatMap.2 ⟨o, ho, hA⟩))
    exact ⟨(h.ownm (hm _ (by simp [prt]))).arr, (h.ownm (hm _ (by simp [prt]))).arr, (h.ownm (hm _ (by simp [prt]))).arr, hk o ho⟩⟩
def cpF (a : V) (x : Nat × V) : Fr := ⟨[(0, a), (3, x.2), (4, .int .i64 (x.1 : Nat))], []⟩
set_option maxHeartbeats 2000000 in
theorem copySegs_ct (hp : HasRf16 P) (hc : P 27 = some burinref0_Copy) {v : V} {l : List SgO} (lg : Lgt l) (hR : ∀ H', Hs H' R → FlR H' v l) (hs : Hs H R)
    (hQ : ∀ w l' H', ss l' = ss l → l'.length = l.length → (∀ o ∈ l', o.s.Ok) → Hs H' (Lst w 7 l'.length (sgCells l') :: (l'.flatMap prt ++ R)) → Q (.ret w) H') : Call P 174 [v] H Q := by
  refine call_of hp.h_burinref0_CopySegments rfl ?_
  have hln := lg.len
  simp -implicitDefEqProofs -dsimp (disch := omega) only [go_sem, dec_t, dec_f, ]
  refine loop_dec (σ := Nat × V) (fun x => l.length - x.1) (cpF v) (fun x H => ∃ l' : List SgO, x.1 ≤ l.length ∧ l'.length = x.1 ∧ ss l' = (ss l).take x.1 ∧ (∀ o ∈ l', o.s.Ok) ∧ Hs H (Lst x.2 7 l'.length (sgCells l') :: (l'.flatMap prt ++ R))) (fun x H K ok hn hx hy => ?_) (0, .sl none 0 0 0) H
    ⟨[], Nat.zero_le _, rfl, by simp, (fun _ h => nomatch h), hs.lst (Same.refl _ _) (Or.inl ⟨rfl, rfl, rfl⟩) fun b h => h.elim⟩
  obtain ⟨i, w⟩ := x
  obtain ⟨l', hi, hl', hss, hok, h⟩ := ok
  dsimp only at hi hl' hss h hn
  subst hl'
  unfold cpF
  by_cases hlt : l'.length < l.length
  rotate_left
  · have : l'.length = l.length := by omega
    rw [List.take_of_length_le (by simp; omega)] at hss
    obtain ⟨a, c, e, rfl⟩ := (hR H (Hs.cutl h.tail)).arr.shape
    simp -implicitDefEqProofs -dsimp (disch := omega) only [go_sem, dec_t, dec_f, burinref0_CopySegments_l0]
    rw [hx]
    simp -implicitDefEqProofs -dsimp (disch := omega) only [go_sem, dec_t, dec_f, ]
    exact hQ w l' H hss this hok h
  obtain ⟨vb, vo, vc, rfl, r7, rk, sok⟩ := (hR H (Hs.cutl h.tail)).at hlt
  have sokR : ∀ H', Hs H' R → SgOk H' l[l'.length] := fun H' h => (hR H' h).ok _ (List.getElem_mem hlt)
  have ht : (ss l).take (l'.length + 1) = (ss l).take l'.length ++ [l[l'.length].s] := by rw [List.take_succ_eq_append_getElem (by simpa using hlt), List.getElem_map]
  have hlg := lg.ok l[l'.length].s (List.mem_map.2 ⟨_, List.getElem_mem hlt, rfl⟩)
  generalize l[l'.length] = q at *
  obtain ⟨s, v1, v2, v3⟩ := q
  unfold SgO.cs at r7
  unfold SgOk at sok sokR
  dsimp only at r7 sok sokR ht hlg
  obtain ⟨a1, c1, e1, hv1⟩ := sok.refs.shape
  obtain ⟨a2, c2, e2, hv2⟩ := sok.keep.shape
  obtain ⟨a3, c3, e3, hv3⟩ := sok.data.shape
  subst hv1 hv2 hv3
  have sOk := sok.ok
  have l2 := sOk.l2
  obtain ⟨num, kind, page, refs, keep, stay, data⟩ := s
  unfold Sg.cells at *
  dsimp only at *
  have g1 := h.alloc (l := [.int .i64 num, .int .i64 kind, .int .i64 page, .sl a1 refs.length c1 e1, .sl a2 keep.length c2 e2, .bool stay, .sl a3 data.length c3 e3])
  have r1 := rd_s g1.cel
  simp -implicitDefEqProofs -dsimp (disch := omega) only [go_sem, dec_t, dec_f, burinref0_CopySegments_l0, Int.toNat_natCast, r7, r1]
  generalize H.new _ = H1 at *
  generalize H.next = b5 at *
  refine copyInts_ct hp (sokR H1 (Hs.cutl g1.tail.tail)).refs (by dsimp only; omega) g1 fun w1 H2 g2 => ?_
  have g2 := Hs.p1 g2
  obtain ⟨wa, wc, we, hw1⟩ := (Hs.p1 g2).own.arr.shape
  dsimp only at hw1 g2
  subst hw1
  have w3 := wr_s g2.cel 3
  have g3 := g2.put (l' := [.int .i64 num, .int .i64 kind, .int .i64 page, .sl wa refs.length wc we, .sl a2 keep.length c2 e2, .bool stay, .sl a3 data.length c3 e3])
  have r3 := rd_s g3.cel
  have hk3 := (sokR _ (Hs.cutl g3.tail.tail.tail)).keep
  obtain ⟨w2, H4, ha4, o4, s4, f4⟩ := app_nil (e := 1) (eb := 1) (firsts_arr hk3) (by simp [bools]) (by simp [bools, one]) (by dsimp only; omega)
  have g4 := g3.lst s4 o4 f4
  obtain ⟨xa, xc, xe, hw2⟩ := o4.arr.shape
  dsimp only at hw2 ha4 g4
  subst hw2
  have w4 := wr_s (Hs.p1 g4).cel 4
  have g5 := (Hs.p1 g4).put (l' := [.int .i64 num, .int .i64 kind, .int .i64 page, .sl wa refs.length wc we, .sl xa keep.length xc xe, .bool stay, .sl a3 data.length c3 e3])
  have r5 := rd_s g5.cel
  simp -implicitDefEqProofs -dsimp (disch := omega) only [go_sem, dec_t, dec_f, w3, r3, ha4, w4, r5]
  have hd5 := (sokR _ (Hs.cutl g5.tail.tail.tail.tail)).data
  refine copy_ct hc hd5 (by dsimp only; omega) fun w3' H6 b6 s6 f6 => ?_
  have g6 := g5.lst s6 b6 f6
  obtain ⟨ya, yc, ye, hw3⟩ := b6.arr.shape
  dsimp only at hw3 g6
  subst hw3
  have w6 := wr_s (Hs.p1 g6).cel 6
  have g7 := (Hs.p1 g6).put (l' := [.int .i64 num, .int .i64 kind, .int .i64 page, .sl wa refs.length wc we, .sl xa keep.length xc xe, .bool stay, .sl ya data.length yc ye])
  have r7' := rd_m g7.cel 7
  have own := (Hs.p4 g7).own
  obtain ⟨w9, H9, ha9, o9, s9, f9⟩ := app_oneT (e := 7) (eb := 104) (m := 1) (M := [.int .i64 num, .int .i64 kind, .int .i64 page, .sl wa refs.length wc we, .sl xa keep.length xc xe, .bool stay, .sl ya data.length yc ye]) own rfl rfl (by omega) (by omega)
  have g9 := (Hs.p4 g7).lst' s9 o9 f9
  rw [next_put] at ha9
  simp -implicitDefEqProofs -dsimp (disch := omega) only [go_sem, dec_t, dec_f, w6, r7', ha9, w64, cadd1]
  refine hn (l'.length + 1, w9) _ (by dsimp only; omega) ⟨l' ++ [⟨⟨num, kind, page, refs, keep, stay, data⟩, .sl wa refs.length wc we, .sl xa keep.length xc xe, .sl ya data.length yc ye⟩], by dsimp only; omega, by simp, ?_, ?_, ?_⟩
  · dsimp only
    rw [ht, ← hss]
    simp [ss]
  · intro o ho
    rcases List.mem_append.1 ho with ho | ho
    · exact hok o ho
    · rw [List.mem_singleton.1 ho]; exact sOk
  · dsimp only
    rw [List.length_append, List.length_singleton, List.flatMap_append]
    have e : sgCells (l' ++ [⟨⟨num, kind, page, refs, keep, stay, data⟩, .sl wa refs.length wc we, .sl xa keep.length xc xe, .sl ya data.length yc ye⟩]) = sgCells l' ++ [.int .i64 num, .int .i64 kind, .int .i64 page, .sl wa refs.length wc we, .sl xa keep.length xc xe, .bool stay, .sl ya data.length yc ye] := by
      simp [sgCells, SgO.cs, Sg.cells]
    rw [e]
    refine Hs.perm (Hs.p1 g9).tail ?_
    refine List.Perm.cons _ ?_
    classical
    refine List.perm_iff_count.2 fun A => ?_
    simp only [prt, List.count_append, List.count_cons, List.count_nil, List.flatMap_cons, List.flatMap_nil, List.append_nil]
    ac_rfl
end
end Go.Ab
namespace Go.Ab
section
variable {P : Prog} {H : Heap} {R : List As} {Q : Out → Heap → Prop}
theorem nbtt : (!(true == true)) = false := rfl
theorem nbtf : (!(true == false)) = true := rfl
theorem nbft : (!(false == true)) = true := rfl
theorem nbff : (!(false == false)) = false := rfl
def wr1F (b : Nat) (v : V) (rnd : Bool) (n i : Nat) : Fr := ⟨[(0, v), (1, .bool rnd), (6, .ptr (some (b, 0))), (47, v), (48, .int .i64 (n : Nat)), (49, .int .i64 (i : Nat))], []⟩
set_option maxHeartbeats 1000000 in
theorem ord_loop (hp : HasFw P) (hg : HasSeg P) {b r most : Nat} {v : V} {l : List SgO} {rnd : Bool} {o : OSt} (ok : o.Ok most) (on : o.next = 0) (hm : most ≤ 1000000) (hR : ∀ H', Hs H' R → FlR H' v l) (hl : l.length ≤ 1000000) (hs : Hs H (MpA r o.held :: Cel b (ordC most o r) :: R)) {Qp : Post} {s' t'}
    (h1 : fileRun most o (ss l) → (∀ s ∈ ss l, May s) → ∀ oi H' ex, Hs H' (Cel b (ordC most oi r) :: R) → Qp (.exit 2) ⟨(0, v) :: (1, .bool rnd) :: (6, .ptr (some (b, 0))) :: ex, []⟩ H')
    (h2 : ¬ fileRun most o (ss l) → ∀ H' ex, Hs H' R → Qp .ret ⟨(4, .sl none 0 0 0) :: (5, .int .i64 165) :: ex, []⟩ H') :
    loopL (Call P) [0, 1, 6, 47, 48, 49] file_Write_l1 Qp s' t' (wr1F b v rnd l.length 0) H := by
  refine loop_cnt l.length (wr1F b v rnd l.length) (fun i H => ∃ oi : OSt, oi.Ok most ∧ oi.next = i ∧ (fileRun most o (ss l) ↔ fileRun most oi ((ss l).drop i)) ∧ (∀ s ∈ (ss l).take i, May s) ∧ Hs H (MpA r oi.held :: Cel b (ordC most oi r) :: R)) (fun i H K hi hS hx hy hz => ?_) 0 H (Nat.zero_le _) ⟨o, ok, on, Iff.rfl, by simp, hs⟩
  obtain ⟨oi, oki, oni, hrun, hmay, hS⟩ := hS
  unfold wr1F
  by_cases hlt : i < l.length
  rotate_left
  · have : i = l.length := by omega
    subst this
    rw [List.drop_of_length_le (by simp)] at hrun
    rw [List.take_of_length_le (by simp)] at hmay
    obtain ⟨a, c, e, rfl⟩ := (hR H hS.tail.tail).arr.shape
    simp -implicitDefEqProofs -dsimp (disch := omega) only [go_sem, dec_t, dec_f, file_Write_l1]
    rw [hy]
    exact h1 (hrun.2 trivial) hmay oi H _ hS.tail
  obtain ⟨vb, vo, vc, rfl, r7, rk, sok⟩ := (hR H hS.tail.tail).at hlt
  have hd : (ss l).drop i = l[i].s :: (ss l).drop (i + 1) := by rw [List.drop_eq_getElem_cons (by simpa using hlt), List.getElem_map]
  have ht : (ss l).take (i + 1) = (ss l).take i ++ [l[i].s] := by rw [List.take_succ_eq_append_getElem (by simpa using hlt), List.getElem_map]
  have hlast : (ss l).drop (i + 1) = [] ↔ i + 1 = l.length := by
    rw [List.drop_eq_nil_iff, List.length_map]; omega
  rw [hd, fileRun] at hrun
  have hx := hx hlt
  have sokR : ∀ H', Hs H' R → SgOk H' l[i] := fun H' h => (hR H' h).ok _ (List.getElem_mem hlt)
  generalize (ss l).drop (i + 1) = rest at *
  generalize l[i] = q at *
  obtain ⟨s, v1, v2, v3⟩ := q
  unfold SgO.cs at r7 rk
  dsimp only at r7 hrun ht
  unfold SgOk at sok
  dsimp only at sok
  unfold SgOk at sokR
  dsimp only at sokR
  obtain ⟨a1, z1, e1, hs1⟩ := sok.refs.shape
  obtain ⟨a2, z2, e2, hs2⟩ := sok.keep.shape
  obtain ⟨a3, z3, e3, hs3⟩ := sok.data.shape
  subst hs1 hs2 hs3
  have g := hS.alloc (l := s.cells (.sl a1 s.refs.length z1 e1) (.sl a2 s.keep.length z2 e2) (.sl a3 s.data.length z3 e3))
  have c1 : s.cells (.sl a1 s.refs.length z1 e1) (.sl a2 s.keep.length z2 e2) (.sl a3 s.data.length z3 e3) = [.int .i64 s.num, .int .i64 s.kind, .int .i64 s.page, .sl a1 s.refs.length z1 e1, .sl a2 s.keep.length z2 e2, .bool s.stay, .sl a3 s.data.length z3 e3] := rfl
  have rm := rd_m g.cel 7
  rw [c1] at r7 g rm
  simp -implicitDefEqProofs -dsimp (disch := omega) only [go_sem, dec_t, dec_f, file_Write_l1, Int.toNat_natCast, r7, rm]
  generalize H.new _ = H1 at *
  generalize H.next = bx at *
  clear rm
  rw [← c1]
  refine check_ct hg (sokR _ g.tail.tail.tail) fun H2 s2 => ?_
  have g2 := g.keep s2
  have r2 := rd_s g2.cel
  have rm2 := rd_m g2.cel 7
  by_cases hM : May s
  rotate_left
  · rw [mayB_f hM]
    simp -implicitDefEqProofs -dsimp (disch := omega) only [go_sem, dec_t, dec_f, ]
    rw [hz]
    exact h2 (fun k => hM (hrun.1 k).1) _ _ g2.tail.tail.tail
  rw [mayB_t hM]
  have bad : ∀ (X Y : Bool), X ≠ Y → (X = true ↔ s.kind = 7) → (Y = true ↔ i + 1 = l.length) → ¬ fileRun most o (ss l) := fun X Y k1 k2 k3 k => by
    have := (hrun.1 k).2.1
    rw [hlast] at this
    apply k1
    cases X <;> cases Y <;> simp_all
  have e64 : (i : Int) = (l.length : Int) - 1 ↔ i + 1 = l.length := by omega
  have step : ∀ Q' : Out → Heap → Prop, (∀ H', comeE most oi s = 0 → Hs H' (MpA r (comeO oi s).held :: Cel b (ordC most (comeO oi s) r) :: R) → Q' (.ret (.int .i64 0)) H') → (∀ e H', e ≠ 0 → comeE most oi s ≠ 0 → Hs H' R → Q' (.ret (.int .i64 e)) H') →
      Call P 202 [.ptr (some (b, 0)), .agg (s.cells (.sl a1 s.refs.length z1 e1) (.sl a2 s.keep.length z2 e2) (.sl a3 s.data.length z3 e3))] H2 Q' := fun Q' k0 k1 =>
    step_ct hp oki hm (by omega) (fun H' h => sokR H' h) hM.keep g2.tail (fun e H' h => k0 H' e h) fun e H' h => k1 _ H' e e h
  rw [c1] at step
  have next : (s.kind = 7 ↔ rest = []) → ∀ H', comeE most oi s = 0 → Hs H' (MpA r (comeO oi s).held :: Cel b (ordC most (comeO oi s) r) :: R) → ∃ oj : OSt, oj.Ok most ∧ oj.next = i + 1 ∧ (fileRun most o (ss l) ↔ fileRun most oj rest) ∧ (∀ s ∈ (ss l).take (i + 1), May s) ∧ Hs H' (MpA r oj.held :: Cel b (ordC most oj r) :: R) := fun k H' he h =>
    ⟨comeO oi s, oki.come he, by simp [comeO, oni], ⟨fun q => (hrun.1 q).2.2.2, fun q => hrun.2 ⟨hM, k, he, q⟩⟩, fun t ht' => by
      rw [ht] at ht'
      rcases List.mem_append.1 ht' with h | h
      · exact hmay t h
      · rw [List.mem_singleton.1 h]; exact hM, h⟩
  have stop := fun (e : comeE most oi s ≠ 0) => h2 fun k => e (hrun.1 k).2.2.1
  rw [hlast] at next
  by_cases k7 : s.kind = 7
  · by_cases kl : i + 1 = l.length
    · have e5 : (i : Int) = (l.length : Int) - 1 := by omega
      simp -implicitDefEqProofs -dsimp (disch := omega) only [go_sem, dec_t, dec_f, r2, rm2, w64, nbtt, nbtf, nbft, nbff]
      refine step _ (fun H' he h => ?_) (fun e H' e0 he h => ?_)
      · simp -implicitDefEqProofs -dsimp (disch := omega) only [go_sem, dec_t, dec_f, w64, cadd1]
        exact hx _ (next ⟨fun _ => kl, fun _ => k7⟩ H' he h)
      · simp -implicitDefEqProofs -dsimp (disch := omega) only [go_sem, dec_t, dec_f, ]
        rw [hz]
        exact stop he _ _ h
    · have := bad true false (by decide) (by simp [k7]) (by simp [kl])
      simp -implicitDefEqProofs -dsimp (disch := omega) only [go_sem, dec_t, dec_f, r2, rm2, w64, nbtt, nbtf, nbft, nbff]
      rw [hz]
      exact h2 this _ _ g2.tail.tail.tail
  · by_cases kl : i + 1 = l.length
    · have := bad false true (by decide) (by simp [k7]) (by simp [kl])
      simp -implicitDefEqProofs -dsimp (disch := omega) only [go_sem, dec_t, dec_f, r2, rm2, w64, nbtt, nbtf, nbft, nbff]
      rw [hz]
      exact h2 this _ _ g2.tail.tail.tail
    · simp -implicitDefEqProofs -dsimp (disch := omega) only [go_sem, dec_t, dec_f, r2, rm2, w64, nbtt, nbtf, nbft, nbff]
      refine step _ (fun H' he h => ?_) (fun e H' e0 he h => ?_)
      · simp -implicitDefEqProofs -dsimp (disch := omega) only [go_sem, dec_t, dec_f, w64, cadd1]
        exact hx _ (next ⟨fun k => absurd k k7, fun k => absurd k kl⟩ H' he h)
      · simp -implicitDefEqProofs -dsimp (disch := omega) only [go_sem, dec_t, dec_f, ]
        rw [hz]
        exact stop he _ _ h
end
end Go.Ab
namespace Go.Ab
section
variable {P : Prog} {H : Heap} {R : List As} {Q : Out → Heap → Prop}
theorem app_on {fv hv : V} {F D : List Nat} (h : Hs H (Lst fv 1 F.length (u8s F) :: R)) (ha : Arr H hv 1 D.length (u8s D)) (hl : F.length + D.length ≤ 100000000000000) :
    ∃ v' H', app H 1 1 fv hv = some (v', H') ∧ Hs H' (Lst v' 1 (F ++ D).length (u8s (F ++ D)) :: R) := by
  obtain ⟨v3, H3, k1, k2, k3, k4⟩ := app_own (eb := 1) h.own (firsts_arr ha) (by simp [u8s]) (u8s_one _) (by omega) (by omega)
  have h3 := h.lst' k3 k2 k4
  rw [show u8s F ++ u8s D = u8s (F ++ D) by simp [u8s], ← List.length_append] at h3
  exact ⟨v3, H3, k1, h3⟩
theorem part_len (rnd : Bool) : ∀ {l : List Sg}, (∀ s ∈ l, May s) → (l.flatMap (partB rnd)).length + (tailB rnd l).length ≤ l.length * 67240000
  | [], _ => by cases rnd <;> simp [tailB]
  | s :: l, h => by
    have ih := part_len rnd (l := l) fun t ht => h t (List.mem_cons_of_mem _ ht)
    have hm := h s List.mem_cons_self
    have h1 := hdr_len hm
    have h2 := hm.most
    cases rnd <;> simp only [tailB, partB, List.flatMap_cons, List.length_append, List.length_cons, if_true, Bool.false_eq_true, if_false, List.length_nil] at ih ⊢ <;> omega
structure WrX where
  i : Nat
  f : V
  d : V
def WrX.fr (rnd : Bool) (v : V) (n : Nat) (x : WrX) : Fr := ⟨[(1, .bool rnd), (11, x.f), (12, x.d), (87, v), (88, .int .i64 (n : Nat)), (89, .int .i64 (x.i : Nat))], []⟩
set_option maxHeartbeats 1000000 in
theorem put_loop (hg : HasSeg P) (hb : HasBits P) {v : V} {l : List SgO} {rnd : Bool} {A : List Nat} {f0 : V} (hM : ∀ s ∈ ss l, May s) (hA : A.length ≤ 1000) (hR : ∀ H', Hs H' R → FlR H' v l) (hl : l.length ≤ 100000) (hs : Hs H (Lst f0 1 A.length (u8s A) :: R)) {Qp : Post} {s' t'}
    (h1 : ∀ fv dv H' ex, Hs H' (Lst fv 1 (A ++ (ss l).flatMap (partB rnd)).length (u8s (A ++ (ss l).flatMap (partB rnd))) :: Lst dv 1 (tailB rnd (ss l)).length (u8s (tailB rnd (ss l))) :: R) → Qp (.exit 4) ⟨(1, .bool rnd) :: (11, fv) :: (12, dv) :: ex, []⟩ H') :
    loopL (Call P) [1, 11, 12, 87, 88, 89] file_Write_l0 Qp s' t' (WrX.fr rnd v l.length ⟨0, f0, .sl none 0 0 0⟩) H := by
  refine loop_dec (σ := WrX) (fun x => l.length - x.i) (WrX.fr rnd v l.length) (fun x H => x.i ≤ l.length ∧ Hs H (Lst x.f 1 (A ++ ((ss l).take x.i).flatMap (partB rnd)).length (u8s (A ++ ((ss l).take x.i).flatMap (partB rnd))) :: Lst x.d 1 (tailB rnd ((ss l).take x.i)).length (u8s (tailB rnd ((ss l).take x.i))) :: R))
    (fun x H K ok hn hx hy => ?_) ⟨0, f0, .sl none 0 0 0⟩ H ⟨Nat.zero_le _, ?_⟩
  rotate_left
  · have e : tailB rnd ((ss l).take 0) = [] := by cases rnd <;> rfl
    rw [e]
    simp only [List.take_zero, List.flatMap_nil, List.append_nil]
    exact Hs.p1 (hs.lst (Same.refl _ _) (Or.inl ⟨rfl, rfl, rfl⟩) fun b h => h.elim)
  obtain ⟨i, fv, dv⟩ := x
  obtain ⟨hi, hS⟩ := ok
  dsimp only at hi hS hn
  unfold WrX.fr
  by_cases hlt : i < l.length
  rotate_left
  · have : i = l.length := by omega
    subst this
    rw [List.take_of_length_le (by simp)] at hS
    obtain ⟨a, c, e, rfl⟩ := (hR H hS.tail.tail).arr.shape
    simp -implicitDefEqProofs -dsimp (disch := omega) only [go_sem, dec_t, dec_f, file_Write_l0]
    rw [hx]
    exact h1 fv dv H _ hS
  obtain ⟨vb, vo, vc, rfl, r7, rk, sok⟩ := (hR H hS.tail.tail).at hlt
  have sokR : ∀ H', Hs H' R → SgOk H' l[i] := fun H' h => (hR H' h).ok _ (List.getElem_mem hlt)
  have hlt' : i < (ss l).length := by simpa using hlt
  have f1 := flat_snoc (partB rnd) (ss l) hlt'
  have f2 : tailB rnd ((ss l).take (i + 1)) = tailB rnd ((ss l).take i) ++ if rnd then (ss l)[i].data else [] := by
    cases rnd
    · simp [tailB]
    · simp only [tailB, if_true]; exact flat_snoc Sg.data (ss l) hlt'
  have hms : May l[i].s := hM _ (List.mem_map.2 ⟨l[i], List.getElem_mem hlt, rfl⟩)
  have pl := part_len rnd (l := (ss l).take i) fun s hs => hM s (List.mem_of_mem_take hs)
  rw [List.length_take, List.length_map, Nat.min_eq_left hi] at pl
  rw [List.getElem_map] at f1 f2
  have hn := hn
  generalize l[i] = q at *
  obtain ⟨s, v1, v2, v3⟩ := q
  unfold SgO.cs at r7 rk
  unfold SgOk at sok sokR
  dsimp only at r7 sok sokR f1 f2 hms
  obtain ⟨a1, z1, e1, hs1⟩ := sok.refs.shape
  obtain ⟨a2, z2, e2, hs2⟩ := sok.keep.shape
  obtain ⟨a3, z3, e3, hs3⟩ := sok.data.shape
  subst hs1 hs2 hs3
  have g := hS.alloc (l := s.cells (.sl a1 s.refs.length z1 e1) (.sl a2 s.keep.length z2 e2) (.sl a3 s.data.length z3 e3))
  have c1 : s.cells (.sl a1 s.refs.length z1 e1) (.sl a2 s.keep.length z2 e2) (.sl a3 s.data.length z3 e3) = [.int .i64 s.num, .int .i64 s.kind, .int .i64 s.page, .sl a1 s.refs.length z1 e1, .sl a2 s.keep.length z2 e2, .bool s.stay, .sl a3 s.data.length z3 e3] := rfl
  have rm := rd_m g.cel 7
  rw [c1] at r7 g rm
  generalize hF : ((ss l).take i).flatMap (partB rnd) = Fi at *
  generalize hD : tailB rnd ((ss l).take i) = Di at *
  have hh := hdr_len hms
  have hdl := hms.most
  simp -implicitDefEqProofs -dsimp (disch := omega) only [go_sem, dec_t, dec_f, file_Write_l0, Int.toNat_natCast, r7, rm]
  generalize H.new _ = H1 at *
  generalize H.next = bx at *
  clear rm
  rw [← c1]
  refine encode_ct hg hb (fun H' h => sokR H' h.tail.tail.tail) g (fun _ hv H2 g2 => ?_) (fun k => absurd hms k)
  obtain ⟨f3, H3, k3, g3⟩ := app_on (Hs.p2 g2) g2.own.arr (by rw [List.length_append]; omega)
  have r3 := rd_s (Hs.p2 g3).cel
  simp -implicitDefEqProofs -dsimp (disch := omega) only [go_sem, dec_t, dec_f, k3]
  have g4 := (Hs.p1 g3).tail
  have r3 := rd_s (Hs.p1 g4).cel
  have sd := (sokR H3 g4.tail.tail.tail).data
  cases rnd with
  | true =>
    obtain ⟨d4, H4, k4, g5⟩ := app_on (Hs.p2 g4) sd (by omega)
    simp -implicitDefEqProofs -dsimp (disch := omega) only [go_sem, dec_t, dec_f, r3, k4, w64, cadd1]
    refine hn ⟨i + 1, f3, d4⟩ H4 (by dsimp only; omega) ⟨by dsimp only; omega, ?_⟩
    dsimp only
    rw [f1, f2]
    simp only [partB, if_true, List.append_nil, ← List.append_assoc]
    exact Hs.p1 (Hs.p2 g5).tail
  | false =>
    obtain ⟨f4, H4, k4, g5⟩ := app_on g4 sd (by simp only [List.length_append]; omega)
    simp -implicitDefEqProofs -dsimp (disch := omega) only [go_sem, dec_t, dec_f, r3, k4, w64, cadd1]
    refine hn ⟨i + 1, f4, dv⟩ H4 (by dsimp only; omega) ⟨by dsimp only; omega, ?_⟩
    dsimp only
    rw [f1, f2]
    simp only [partB, Bool.false_eq_true, if_false, List.append_nil, ← List.append_assoc]
    exact g5.tail2
end
end Go.Ab
namespace Go.Ab
section
variable {P : Prog} {H : Heap} {R : List As} {Q : Out → Heap → Prop}
set_option maxHeartbeats 1000000 in
theorem write_ct (hp : HasFw P) (hg : HasSeg P) (hb : HasBits P) {v : V} {l : List SgO} {rnd : Bool} (hR : ∀ H', Hs H' R → FlR H' v l) (hl : l.length ≤ 100000) (hs : Hs H R)
    (h1 : fileOk (ss l) → ∀ v' H', Hs H' (Lst v' 1 (fileB rnd (ss l)).length (u8s (fileB rnd (ss l))) :: R) → Q (.ret (.tup [v', .int .i64 0])) H') (h2 : ¬ fileOk (ss l) → ∀ H', Hs H' R → Q (.ret (.tup [.sl none 0 0 0, .int .i64 165])) H') : Call P 200 [v, .bool rnd] H Q := by
  refine call_of hp.h_file_Write rfl ?_
  obtain ⟨va, vc, ve, hv⟩ := (hR H hs).arr.shape
  have g1 := hs.mnew.alloc (l := [.int .i64 0, .int .i64 0, .int .i64 0, .int .i64 0, .map (some H.next)])
  rw [hv]
  simp -implicitDefEqProofs -dsimp (disch := omega) only [go_sem, dec_t, dec_f, ]
  rw [← hv]
  generalize (H.new (.map [])).new _ = H1 at *
  generalize hb1 : (H.new (.map [])).next = b at *
  rw [next_new] at hb1
  rw [hb1]
  generalize H.next = r at *
  refine cnt_loop (fun H' h => hR H' h.tail) (by omega) g1 fun H2 ex g2 => ?_
  have r2 := rd_s g2.cel
  have hpl := pgs_le (ss l)
  rw [List.length_map] at hpl
  by_cases k1 : pgs (ss l) ≤ 64
  rotate_left
  · rw [hv]
    simp -implicitDefEqProofs -dsimp (disch := omega) only [go_sem, dec_t, dec_f, r2]
    exact h2 (fun k => k1 k.1) _ g2.tail.tail
  by_cases k2 : l.length = 0
  · rw [hv]
    simp -implicitDefEqProofs -dsimp (disch := omega) only [go_sem, dec_t, dec_f, r2]
    exact h2 (fun k => k.2.1 (List.length_eq_zero_iff.1 (by simpa using k2))) _ g2.tail.tail
  rw [hv]
  simp -implicitDefEqProofs -dsimp (disch := omega) only [go_sem, dec_t, dec_f, r2]
  rw [← hv]
  have hne : ss l ≠ [] := fun e => k2 (by simpa using congrArg List.length e)
  refine ord_loop (o := ⟨0, 0, false, []⟩) hp hg (OSt.ok0 (pgs (ss l))) rfl (by omega) hR (by omega) (Hs.p1 g2) (fun hrun hM oi H3 ex g3 => ?_) (fun hrun H3 ex g3 => ?_)
  rotate_left
  · simp -implicitDefEqProofs -dsimp (disch := omega) only [go_sem, dec_t, dec_f, ]
    exact h2 (fun k => hrun k.2.2) _ g3
  have ok : fileOk (ss l) := ⟨k1, hne, hrun⟩
  have h1 := h1 ok
  clear h2
  have r3 := rd_s g3.cel
  unfold ordC at r3
  have eu : u8s [66, 85, 82, 1] = [.int .u8 66, .int .u8 85, .int .u8 82, .int .u8 1] := rfl
  have g4 := g3.alloc (l := u8s [66, 85, 82, 1])
  rw [eu] at g4
  simp -implicitDefEqProofs -dsimp (disch := omega) only [go_sem, dec_t, dec_f, ]
  refine ops_mark rfl g4.cel (by omega) ?_
  have g5 := (Hs.toLst (n := 4) (e := 1) (g4.put (l' := [.int .u8 66, .int .u8 85, .int .u8 82, .int .u8 1])) rfl)
  have r5 := rd_s (Hs.p1 g5).cel
  unfold ordC at r5
  generalize Heap.put _ _ _ = H5 at *
  generalize H3.next = b4 at *
  clear g4
  obtain ⟨f6, H6, k6, o6, s6, f6'⟩ := app_one (e := 1) (eb := 1) (m := 2) (M := [.int .u8 0, .int .u8 (pgs (ss l) : Nat)]) g5.own rfl rfl (by omega) (by omega)
  have g6 := (g5.lst' s6 o6 f6').tail2
  simp -implicitDefEqProofs -dsimp (disch := omega) only [go_sem, dec_t, dec_f, r5, wu8, k6]
  have fin : ∀ (fv dv : V) (H8 : Heap), Hs H8 (Lst fv 1 ([66, 85, 82, 1, if rnd then 1 else 0, pgs (ss l)] ++ (ss l).flatMap (partB rnd)).length (u8s ([66, 85, 82, 1, if rnd then 1 else 0, pgs (ss l)] ++ (ss l).flatMap (partB rnd))) :: Lst dv 1 (tailB rnd (ss l)).length (u8s (tailB rnd (ss l))) :: R) →
      ∃ v' H', app H8 1 1 fv dv = some (v', H') ∧ Q (.ret (.tup [v', .int .i64 0])) H' := fun fv dv H8 h => by
    have pl := part_len rnd hM
    rw [List.length_map] at pl
    obtain ⟨v', H', k, g⟩ := app_on h (Hs.p1 h).own.arr (by simp only [List.length_append, List.length_cons, List.length_nil]; omega)
    exact ⟨v', H', k, h1 v' H' g.tail2⟩
  have R8 : ∀ H', Hs H' R → FlR H' v l := hR
  clear h1 g5 r5 k6 o6 s6 f6' g3 r3
  cases rnd with
  | false =>
    have g7 : Hs H6 (Lst f6 1 ([66, 85, 82, 1, 0, pgs (ss l)] : List Nat).length (u8s [66, 85, 82, 1, 0, pgs (ss l)]) :: R) := g6
    rw [hv]
    simp -implicitDefEqProofs -dsimp (disch := omega) only [go_sem, dec_t, dec_f, ]
    rw [← hv]
    refine put_loop hg hb hM (by simp) hR hl g7 fun fv dv H8 ex g8 => ?_
    obtain ⟨v', H', k, hq⟩ := fin fv dv H8 g8
    simp -implicitDefEqProofs -dsimp (disch := omega) only [go_sem, dec_t, dec_f, k]
    exact hq
  | true =>
    obtain ⟨b6, rfl, hb6, kw, ow, sw⟩ := wr_own g6.own (i := 4) (k := 0) (vs := [.int .u8 1]) (by omega) (by simp) rfl
    have g7 := g6.lst' sw ow fun b h => Or.inl h
    have g8 : Hs (H6.put b6 _) (Lst (.sl (some (b6, 0)) 6 6 1) 1 ([66, 85, 82, 1, 1, pgs (ss l)] : List Nat).length (u8s [66, 85, 82, 1, 1, pgs (ss l)]) :: R) := g7
    rw [hv]
    simp -implicitDefEqProofs -dsimp (disch := omega) only [go_sem, dec_t, dec_f, kw]
    rw [← hv]
    refine put_loop hg hb hM (by simp) hR hl g8 fun fv dv H8 ex g9 => ?_
    obtain ⟨v', H', k, hq⟩ := fin fv dv H8 g9
    simp -implicitDefEqProofs -dsimp (disch := omega) only [go_sem, dec_t, dec_f, k]
    exact hq
end
end Go.Ab
namespace Go.Ab
-- burinref17_Write: 228, parameters ? ?; loops burinref17_Write_l0 [0 ?, 1 ?, 8 ?, 12 ?]; burinref17_Write_l1 [0 ?, 1 ?, 8 ?, 9 ?]; burinref17_Write_l2 [0 ?, 1 ?, 6 ?, 7 ?]
-- burinref17_Ordered: 227, parameters l; loops burinref17_Ordered_l0 [0 l, 3 o, 5 i]; burinref17_Ordered_l1 [0 l, 3 o, 4 i]
-- burinref17_order_come: 229, parameters ? ?; loops burinref17_order_come_l0 [0 ?, 3 ?, 6 ?, 7 ?]; burinref17_order_come_l1 [0 ?, 3 ?, 6 ?, 7 ?, 8 ?, 9 ?]; burinref17_order_come_l2 [0 ?, 3 ?, 5 ?]
-- burinref17_order_place: 231, parameters ? ?; loops 
-- burinref17_has: 230, parameters l n; loops burinref17_has_l0 [0 l, 1 n, 5 i]
def burinref17_Write_l2 : Cd := .seq (.seq (.reg false [0, 1, 6, 7, 19] [⟨some 16, .mv (.t 7), none, 0, []⟩,
    ⟨some 17, .mv (.t 0), none, 0, []⟩,
    ⟨some 18, .len none (.t 17), none, 0, []⟩,
    ⟨some 19, .bin .lss .num (.t 16) (.t 18), none, 0, []⟩])
  (.cond (.t 19) (.skip)
  (.exit 0)))
  (.seq (.block 1 (.seq (.reg false [0, 1, 6, 7, 27] [⟨some 22, .mv (.t 0), none, 0, []⟩,
    ⟨some 23, .mv (.t 7), none, 0, []⟩,
    ⟨some 24, .iad none 7 (.t 22) (.t 23), none, 0, []⟩,
    ⟨some 25, .fad 1 (.t 24), none, 0, []⟩,
    ⟨some 26, .load none (.t 25), none, 0, []⟩,
    ⟨some 27, .bin .eql .num (.t 26) (.c (.int .i64 1)), none, 0, []⟩])
  (.cond (.t 27) (.reg false [0, 1, 6, 7] [⟨some 28, .mv (.t 6), none, 0, []⟩,
    ⟨some 29, .bin .add .num (.t 28) (.c (.int .i64 1)), none, 0, []⟩,
    ⟨some 6, .mv (.t 29), none, 0, []⟩])
  (.skip))))
  (.reg false [0, 1, 6, 7] [⟨some 20, .mv (.t 7), none, 0, []⟩,
    ⟨some 21, .bin .add .num (.t 20) (.c (.int .i64 1)), none, 0, []⟩,
    ⟨some 7, .mv (.t 21), none, 0, []⟩]))
def burinref17_Write_l1 : Cd := .seq (.seq (.reg false [0, 1, 8, 9, 42] [⟨some 39, .mv (.t 9), none, 0, []⟩,
    ⟨some 40, .mv (.t 0), none, 0, []⟩,
    ⟨some 41, .len none (.t 40), none, 0, []⟩,
    ⟨some 42, .bin .lss .num (.t 39) (.t 41), none, 0, []⟩])
  (.cond (.t 42) (.skip)
  (.exit 2)))
  (.seq (.block 3 (.seq (.reg false [0, 1, 8, 9, 10] [⟨some 46, .mv (.t 0), none, 0, []⟩,
    ⟨some 47, .mv (.t 9), none, 0, []⟩,
    ⟨some 48, .iad none 7 (.t 46) (.t 47), none, 0, []⟩,
    ⟨some 49, .load (some 7) (.t 48), none, 0, []⟩,
    ⟨some 50, .call (.f 172) [(.t 49)], none, 0, []⟩,
    ⟨some 45, .mv (.t 50), none, 0, []⟩,
    ⟨some 51, .ext 0 (.t 45), none, 0, []⟩,
    ⟨some 52, .ext 1 (.t 45), none, 0, []⟩,
    ⟨some 10, .mv (.t 51), none, 0, []⟩,
    ⟨some 11, .mv (.t 52), none, 0, []⟩])
  (.seq (.reg false [0, 1, 8, 9] [⟨some 53, .mv (.t 8), none, 0, []⟩,
    ⟨some 54, .mv (.t 10), none, 0, []⟩,
    ⟨some 55, .append 1 1 (.t 53) (.t 54), none, 0, []⟩,
    ⟨some 8, .mv (.t 55), none, 0, []⟩])
  (.seq (.reg false [0, 1, 8, 9, 57] [⟨some 56, .mv (.t 1), none, 0, []⟩,
    ⟨some 57, .un .not (.t 56), none, 0, []⟩])
  (.cond (.t 57) (.reg false [0, 1, 8, 9] [⟨some 58, .mv (.t 8), none, 0, []⟩,
    ⟨some 59, .mv (.t 0), none, 0, []⟩,
    ⟨some 60, .mv (.t 9), none, 0, []⟩,
    ⟨some 61, .iad none 7 (.t 59) (.t 60), none, 0, []⟩,
    ⟨some 62, .fad 6 (.t 61), none, 0, []⟩,
    ⟨some 63, .load none (.t 62), none, 0, []⟩,
    ⟨some 64, .append 1 1 (.t 58) (.t 63), none, 0, []⟩,
    ⟨some 8, .mv (.t 64), none, 0, []⟩])
  (.skip))))))
  (.reg false [0, 1, 8, 9] [⟨some 43, .mv (.t 9), none, 0, []⟩,
    ⟨some 44, .bin .add .num (.t 43) (.c (.int .i64 1)), none, 0, []⟩,
    ⟨some 9, .mv (.t 44), none, 0, []⟩]))
def burinref17_Write_l0 : Cd := .seq (.seq (.reg false [0, 1, 8, 12, 71] [⟨some 65, .mv (.t 12), none, 0, []⟩,
    ⟨some 66, .mv (.t 0), none, 0, []⟩,
    ⟨some 67, .len none (.t 66), none, 0, []⟩,
    ⟨some 68, .bin .lss .num (.t 65) (.t 67), none, 0, []⟩,
    ⟨some 69, .mv (.t 68), none, 0, []⟩,
    ⟨some 70, .mv (.t 1), some (69, true), 0, []⟩,
    ⟨some 71, .pick (.t 69) (.t 70) (.c (.bool false)), none, 0, []⟩])
  (.cond (.t 71) (.skip)
  (.exit 4)))
  (.seq (.block 5 (.reg false [0, 1, 8, 12] [⟨some 74, .mv (.t 8), none, 0, []⟩,
    ⟨some 75, .mv (.t 0), none, 0, []⟩,
    ⟨some 76, .mv (.t 12), none, 0, []⟩,
    ⟨some 77, .iad none 7 (.t 75) (.t 76), none, 0, []⟩,
    ⟨some 78, .fad 6 (.t 77), none, 0, []⟩,
    ⟨some 79, .load none (.t 78), none, 0, []⟩,
    ⟨some 80, .append 1 1 (.t 74) (.t 79), none, 0, []⟩,
    ⟨some 8, .mv (.t 80), none, 0, []⟩]))
  (.reg false [0, 1, 8, 12] [⟨some 72, .mv (.t 12), none, 0, []⟩,
    ⟨some 73, .bin .add .num (.t 72) (.c (.int .i64 1)), none, 0, []⟩,
    ⟨some 12, .mv (.t 73), none, 0, []⟩]))
/-- burin/burinref17.Write -/
def burinref17_Write : AFun := ⟨2, 82, true, [.t 4, .t 5],
  .seq (.reg false [0, 1] [⟨some 4, .mv (.c (.sl none 0 0 0)), none, 0, []⟩,
    ⟨some 5, .mv (.c (.int .i64 0)), none, 0, []⟩])
  (.seq (.seq (.reg false [0, 1, 15] [⟨some 13, .mv (.t 0), none, 0, []⟩,
    ⟨some 14, .call (.f 227) [(.t 13)], none, 0, []⟩,
    ⟨some 15, .un .not (.t 14), none, 0, []⟩])
  (.cond (.t 15) (.seq (.reg false [4, 5] [⟨some 4, .mv (.c (.sl none 0 0 0)), none, 0, []⟩,
    ⟨some 5, .mv (.c (.int .i64 165)), none, 0, []⟩])
  (.ret))
  (.skip)))
  (.seq (.reg false [0, 1, 6] [⟨some 6, .mv (.c (.int .i64 0)), none, 0, []⟩])
  (.seq (.seq (.reg false [0, 1, 6, 7] [⟨some 7, .mv (.c (.int .i64 0)), none, 0, []⟩])
  (.block 0 (.loop [0, 1, 6, 7] burinref17_Write_l2)))
  (.seq (.reg false [0, 1, 6, 8] [⟨some 30, .bslice 1 [.int .u8 0] 5 [(0, (.c (.int .u8 66))), (1, (.c (.int .u8 85))), (2, (.c (.int .u8 82))), (3, (.c (.int .u8 1))), (4, (.c (.int .u8 0)))], none, 0, []⟩,
    ⟨some 8, .mv (.t 30), none, 0, []⟩])
  (.seq (.seq (.reg false [0, 1, 6, 8, 31] [⟨some 31, .mv (.t 1), none, 0, []⟩])
  (.cond (.t 31) (.reg false [0, 1, 6, 8] [⟨some 32, .mv (.t 8), none, 0, []⟩,
    ⟨some 33, .iad none 1 (.t 32) (.c (.int .i64 4)), none, 0, []⟩,
    ⟨none, .store 1 (.t 33) (.c (.int .u8 1)), none, 0, []⟩])
  (.skip)))
  (.seq (.reg false [0, 1, 8] [⟨some 34, .mv (.t 8), none, 0, []⟩,
    ⟨some 35, .mv (.t 6), none, 0, []⟩,
    ⟨some 36, .conv .u64 (.t 35), none, 0, []⟩,
    ⟨some 37, .call (.f 18) [(.t 36)], none, 0, []⟩,
    ⟨some 38, .append 1 1 (.t 34) (.t 37), none, 0, []⟩,
    ⟨some 8, .mv (.t 38), none, 0, []⟩])
  (.seq (.seq (.reg false [0, 1, 8, 9] [⟨some 9, .mv (.c (.int .i64 0)), none, 0, []⟩])
  (.block 2 (.loop [0, 1, 8, 9] burinref17_Write_l1)))
  (.seq (.seq (.reg false [0, 1, 8, 12] [⟨some 12, .mv (.c (.int .i64 0)), none, 0, []⟩])
  (.block 4 (.loop [0, 1, 8, 12] burinref17_Write_l0)))
  (.seq (.reg false [4, 5] [⟨some 81, .mv (.t 8), none, 0, []⟩,
    ⟨some 4, .mv (.t 81), none, 0, []⟩,
    ⟨some 5, .mv (.c (.int .i64 0)), none, 0, []⟩])
  (.ret))))))))))⟩

def burinref17_Ordered_l1 : Cd := .seq (.seq (.reg false [0, 3, 4, 11] [⟨some 8, .mv (.t 4), none, 0, []⟩,
    ⟨some 9, .mv (.t 0), none, 0, []⟩,
    ⟨some 10, .len none (.t 9), none, 0, []⟩,
    ⟨some 11, .bin .lss .num (.t 8) (.t 10), none, 0, []⟩])
  (.cond (.t 11) (.skip)
  (.exit 0)))
  (.seq (.block 1 (.seq (.reg false [0, 3, 4, 19] [⟨some 14, .mv (.t 0), none, 0, []⟩,
    ⟨some 15, .mv (.t 4), none, 0, []⟩,
    ⟨some 16, .iad none 7 (.t 14) (.t 15), none, 0, []⟩,
    ⟨some 17, .fad 1 (.t 16), none, 0, []⟩,
    ⟨some 18, .load none (.t 17), none, 0, []⟩,
    ⟨some 19, .bin .eql .num (.t 18) (.c (.int .i64 1)), none, 0, []⟩])
  (.cond (.t 19) (.reg false [0, 3, 4] [⟨some 20, .mv (.t 3), none, 0, []⟩,
    ⟨some 21, .nilck (.t 20), none, 0, []⟩,
    ⟨some 22, .fad 2 (.t 21), none, 0, []⟩,
    ⟨some 23, .load none (.t 22), none, 0, []⟩,
    ⟨some 24, .bin .add .num (.t 23) (.c (.int .i64 1)), none, 0, []⟩,
    ⟨some 25, .nilck (.t 20), none, 0, []⟩,
    ⟨some 26, .fad 2 (.t 25), none, 0, []⟩,
    ⟨none, .store 1 (.t 26) (.t 24), none, 0, []⟩])
  (.skip))))
  (.reg false [0, 3, 4] [⟨some 12, .mv (.t 4), none, 0, []⟩,
    ⟨some 13, .bin .add .num (.t 12) (.c (.int .i64 1)), none, 0, []⟩,
    ⟨some 4, .mv (.t 13), none, 0, []⟩]))
def burinref17_Ordered_l0 : Cd := .seq (.seq (.reg false [0, 3, 5, 35] [⟨some 32, .mv (.t 5), none, 0, []⟩,
    ⟨some 33, .mv (.t 0), none, 0, []⟩,
    ⟨some 34, .len none (.t 33), none, 0, []⟩,
    ⟨some 35, .bin .lss .num (.t 32) (.t 34), none, 0, []⟩])
  (.cond (.t 35) (.skip)
  (.exit 2)))
  (.seq (.block 3 (.seq (.reg false [0, 3, 5, 58] [⟨some 38, .mv (.t 3), none, 0, []⟩,
    ⟨some 39, .nilck (.t 38), none, 0, []⟩,
    ⟨some 40, .fad 4 (.t 39), none, 0, []⟩,
    ⟨some 41, .load none (.t 40), none, 0, []⟩,
    ⟨some 42, .mv (.t 41), none, 0, []⟩,
    ⟨some 43, .mv (.t 0), some (42, false), 0, []⟩,
    ⟨some 44, .mv (.t 5), some (42, false), 0, []⟩,
    ⟨some 45, .iad none 7 (.t 43) (.t 44), some (42, false), 0, []⟩,
    ⟨some 46, .load (some 7) (.t 45), some (42, false), 0, []⟩,
    ⟨some 47, .call (.f 170) [(.t 46)], some (42, false), 0, []⟩,
    ⟨some 48, .un .not (.t 47), some (42, false), 0, []⟩,
    ⟨some 49, .pick (.t 42) (.c (.bool true)) (.t 48), none, 0, []⟩,
    ⟨some 50, .mv (.t 49), none, 0, []⟩,
    ⟨some 51, .mv (.t 3), some (50, false), 0, []⟩,
    ⟨some 52, .mv (.t 0), some (50, false), 0, []⟩,
    ⟨some 53, .mv (.t 5), some (50, false), 0, []⟩,
    ⟨some 54, .iad none 7 (.t 52) (.t 53), some (50, false), 0, []⟩,
    ⟨some 55, .load (some 7) (.t 54), some (50, false), 0, []⟩,
    ⟨some 56, .call (.f 229) [(.t 51), (.t 55)], some (50, false), 0, []⟩,
    ⟨some 57, .bin .neq .num (.t 56) (.c (.int .i64 0)), some (50, false), 0, []⟩,
    ⟨some 58, .pick (.t 50) (.c (.bool true)) (.t 57), none, 0, []⟩])
  (.cond (.t 58) (.seq (.reg false [2] [⟨some 2, .mv (.c (.bool false)), none, 0, []⟩])
  (.ret))
  (.skip))))
  (.reg false [0, 3, 5] [⟨some 36, .mv (.t 5), none, 0, []⟩,
    ⟨some 37, .bin .add .num (.t 36) (.c (.int .i64 1)), none, 0, []⟩,
    ⟨some 5, .mv (.t 37), none, 0, []⟩]))
/-- burin/burinref17.Ordered -/
def burinref17_Ordered : AFun := ⟨1, 63, true, [.t 2],
  .seq (.reg false [0] [⟨some 2, .mv (.c (.bool false)), none, 0, []⟩])
  (.seq (.reg false [0, 3] [⟨some 6, .build [.int .i64 0, .int .i64 0, .int .i64 0, .bool false, .bool false, .sl none 0 0 0] [], none, 0, []⟩,
    ⟨some 7, .box 6 (.t 6), none, 0, []⟩,
    ⟨some 3, .mv (.t 7), none, 0, []⟩])
  (.seq (.seq (.reg false [0, 3, 4] [⟨some 4, .mv (.c (.int .i64 0)), none, 0, []⟩])
  (.block 0 (.loop [0, 3, 4] burinref17_Ordered_l1)))
  (.seq (.seq (.reg false [0, 3, 31] [⟨some 27, .mv (.t 3), none, 0, []⟩,
    ⟨some 28, .nilck (.t 27), none, 0, []⟩,
    ⟨some 29, .fad 2 (.t 28), none, 0, []⟩,
    ⟨some 30, .load none (.t 29), none, 0, []⟩,
    ⟨some 31, .bin .gtr .num (.t 30) (.c (.int .i64 64)), none, 0, []⟩])
  (.cond (.t 31) (.seq (.reg false [2] [⟨some 2, .mv (.c (.bool false)), none, 0, []⟩])
  (.ret))
  (.skip)))
  (.seq (.seq (.reg false [0, 3, 5] [⟨some 5, .mv (.c (.int .i64 0)), none, 0, []⟩])
  (.block 2 (.loop [0, 3, 5] burinref17_Ordered_l0)))
  (.seq (.reg false [2] [⟨some 59, .mv (.t 3), none, 0, []⟩,
    ⟨some 60, .nilck (.t 59), none, 0, []⟩,
    ⟨some 61, .fad 4 (.t 60), none, 0, []⟩,
    ⟨some 62, .load none (.t 61), none, 0, []⟩,
    ⟨some 2, .mv (.t 62), none, 0, []⟩])
  (.ret))))))⟩

def burinref17_order_come_l2 : Cd := .seq (.seq (.reg false [0, 3, 5, 25] [⟨some 21, .mv (.t 5), none, 0, []⟩,
    ⟨some 22, .fad 3 (.t 3), none, 0, []⟩,
    ⟨some 23, .load none (.t 22), none, 0, []⟩,
    ⟨some 24, .len none (.t 23), none, 0, []⟩,
    ⟨some 25, .bin .lss .num (.t 21) (.t 24), none, 0, []⟩])
  (.cond (.t 25) (.skip)
  (.exit 0)))
  (.seq (.block 1 (.seq (.reg true [0, 3, 5, 38] [⟨some 28, .mv (.t 0), none, 0, []⟩,
    ⟨some 29, .nilck (.t 28), none, 1, []⟩,
    ⟨some 30, .fad 5 (.t 29), none, 2, []⟩,
    ⟨some 31, .load none (.t 30), none, 3, []⟩,
    ⟨some 32, .fad 3 (.t 3), none, 4, []⟩,
    ⟨some 33, .load none (.t 32), none, 5, []⟩,
    ⟨some 34, .mv (.t 5), none, 6, []⟩,
    ⟨some 35, .iad none 1 (.t 33) (.t 34), none, 7, []⟩,
    ⟨some 36, .load none (.t 35), none, 8, []⟩,
    ⟨some 37, .call (.f 230) [(.t 31), (.t 36)], none, 9, []⟩,
    ⟨some 38, .un .not (.t 37), none, 10, []⟩])
  (.cond (.t 38) (.seq (.reg false [4] [⟨some 4, .mv (.c (.int .i64 162)), none, 0, []⟩])
  (.ret))
  (.skip))))
  (.reg false [0, 3, 5] [⟨some 26, .mv (.t 5), none, 0, []⟩,
    ⟨some 27, .bin .add .num (.t 26) (.c (.int .i64 1)), none, 0, []⟩,
    ⟨some 5, .mv (.t 27), none, 0, []⟩]))
def burinref17_order_come_l1 : Cd := .seq (.seq (.reg false [0, 3, 6, 7, 8, 9, 83] [⟨some 79, .mv (.t 9), none, 0, []⟩,
    ⟨some 80, .fad 3 (.t 3), none, 0, []⟩,
    ⟨some 81, .load none (.t 80), none, 0, []⟩,
    ⟨some 82, .len none (.t 81), none, 0, []⟩,
    ⟨some 83, .bin .lss .num (.t 79) (.t 82), none, 0, []⟩])
  (.cond (.t 83) (.skip)
  (.exit 5)))
  (.seq (.block 6 (.seq (.reg true [0, 3, 6, 7, 8, 9, 106] [⟨some 86, .fad 3 (.t 3), none, 0, []⟩,
    ⟨some 87, .load none (.t 86), none, 1, []⟩,
    ⟨some 88, .mv (.t 9), none, 2, []⟩,
    ⟨some 89, .iad none 1 (.t 87) (.t 88), none, 3, []⟩,
    ⟨some 90, .load none (.t 89), none, 4, []⟩,
    ⟨some 91, .mv (.t 0), none, 5, []⟩,
    ⟨some 92, .nilck (.t 91), none, 6, []⟩,
    ⟨some 93, .fad 5 (.t 92), none, 7, []⟩,
    ⟨some 94, .load none (.t 93), none, 8, []⟩,
    ⟨some 95, .mv (.t 7), none, 9, []⟩,
    ⟨some 96, .iad none 1 (.t 94) (.t 95), none, 10, []⟩,
    ⟨some 97, .load none (.t 96), none, 11, []⟩,
    ⟨some 98, .bin .eql .num (.t 90) (.t 97), none, 12, []⟩,
    ⟨some 99, .mv (.t 98), none, 13, []⟩,
    ⟨some 100, .fad 4 (.t 3), some (99, true), 14, []⟩,
    ⟨some 101, .load none (.t 100), some (99, true), 15, []⟩,
    ⟨some 102, .mv (.t 9), some (99, true), 16, []⟩,
    ⟨some 103, .iad none 1 (.t 101) (.t 102), some (99, true), 17, []⟩,
    ⟨some 104, .load none (.t 103), some (99, true), 18, []⟩,
    ⟨some 105, .un .not (.t 104), some (99, true), 19, []⟩,
    ⟨some 106, .pick (.t 99) (.t 105) (.c (.bool false)), none, 20, []⟩])
  (.cond (.t 106) (.reg false [0, 3, 6, 7, 8, 9] [⟨some 8, .mv (.c (.bool false)), none, 0, []⟩])
  (.skip))))
  (.reg false [0, 3, 6, 7, 8, 9] [⟨some 84, .mv (.t 9), none, 0, []⟩,
    ⟨some 85, .bin .add .num (.t 84) (.c (.int .i64 1)), none, 0, []⟩,
    ⟨some 9, .mv (.t 85), none, 0, []⟩]))
def burinref17_order_come_l0 : Cd := .seq (.seq (.reg false [0, 3, 6, 7, 76] [⟨some 70, .mv (.t 7), none, 0, []⟩,
    ⟨some 71, .mv (.t 0), none, 0, []⟩,
    ⟨some 72, .nilck (.t 71), none, 0, []⟩,
    ⟨some 73, .fad 5 (.t 72), none, 0, []⟩,
    ⟨some 74, .load none (.t 73), none, 0, []⟩,
    ⟨some 75, .len none (.t 74), none, 0, []⟩,
    ⟨some 76, .bin .lss .num (.t 70) (.t 75), none, 0, []⟩])
  (.cond (.t 76) (.skip)
  (.exit 3)))
  (.seq (.block 4 (.seq (.reg false [0, 3, 6, 7, 8] [⟨some 8, .mv (.c (.bool true)), none, 0, []⟩])
  (.seq (.seq (.reg false [0, 3, 6, 7, 8, 9] [⟨some 9, .mv (.c (.int .i64 0)), none, 0, []⟩])
  (.block 5 (.loop [0, 3, 6, 7, 8, 9] burinref17_order_come_l1)))
  (.seq (.reg false [0, 3, 6, 7, 107] [⟨some 107, .mv (.t 8), none, 0, []⟩])
  (.cond (.t 107) (.reg false [0, 3, 6, 7] [⟨some 108, .mv (.t 6), none, 0, []⟩,
    ⟨some 109, .mv (.t 0), none, 0, []⟩,
    ⟨some 110, .nilck (.t 109), none, 0, []⟩,
    ⟨some 111, .fad 5 (.t 110), none, 0, []⟩,
    ⟨some 112, .load none (.t 111), none, 0, []⟩,
    ⟨some 113, .mv (.t 7), none, 0, []⟩,
    ⟨some 114, .iad none 1 (.t 112) (.t 113), none, 0, []⟩,
    ⟨some 115, .load none (.t 114), none, 0, []⟩,
    ⟨some 116, .bslice 1 [.int .i64 0] 1 [(0, (.t 115))], none, 0, []⟩,
    ⟨some 117, .append 1 8 (.t 108) (.t 116), none, 0, []⟩,
    ⟨some 6, .mv (.t 117), none, 0, []⟩])
  (.skip))))))
  (.reg false [0, 3, 6, 7] [⟨some 77, .mv (.t 7), none, 0, []⟩,
    ⟨some 78, .bin .add .num (.t 77) (.c (.int .i64 1)), none, 0, []⟩,
    ⟨some 7, .mv (.t 78), none, 0, []⟩]))
/-- (*burin/burinref17.order).come -/
def burinref17_order_come : AFun := ⟨2, 129, true, [.t 4],
  .seq (.reg false [0, 3] [⟨some 3, .box 7 (.t 1), none, 0, []⟩,
    ⟨some 4, .mv (.c (.int .i64 0)), none, 0, []⟩])
  (.seq (.seq (.reg true [0, 3, 16] [⟨some 10, .fad 0 (.t 3), none, 0, []⟩,
    ⟨some 11, .load none (.t 10), none, 1, []⟩,
    ⟨some 12, .mv (.t 0), none, 2, []⟩,
    ⟨some 13, .nilck (.t 12), none, 3, []⟩,
    ⟨some 14, .fad 0 (.t 13), none, 4, []⟩,
    ⟨some 15, .load none (.t 14), none, 5, []⟩,
    ⟨some 16, .bin .neq .num (.t 11) (.t 15), none, 6, []⟩])
  (.cond (.t 16) (.seq (.reg false [4] [⟨some 4, .mv (.c (.int .i64 161)), none, 0, []⟩])
  (.ret))
  (.skip)))
  (.seq (.seq (.reg false [0, 3, 20] [⟨some 17, .mv (.t 0), none, 0, []⟩,
    ⟨some 18, .load (some 7) (.t 3), none, 0, []⟩,
    ⟨some 19, .call (.f 231) [(.t 17), (.t 18)], none, 0, []⟩,
    ⟨some 20, .un .not (.t 19), none, 0, []⟩])
  (.cond (.t 20) (.seq (.reg false [4] [⟨some 4, .mv (.c (.int .i64 151)), none, 0, []⟩])
  (.ret))
  (.skip)))
  (.seq (.seq (.reg false [0, 3, 5] [⟨some 5, .mv (.c (.int .i64 0)), none, 0, []⟩])
  (.block 0 (.loop [0, 3, 5] burinref17_order_come_l2)))
  (.seq (.reg false [0, 3] [⟨some 39, .mv (.t 0), none, 0, []⟩,
    ⟨some 40, .nilck (.t 39), none, 0, []⟩,
    ⟨some 41, .fad 0 (.t 40), none, 0, []⟩,
    ⟨some 42, .load none (.t 41), none, 0, []⟩,
    ⟨some 43, .bin .add .num (.t 42) (.c (.int .i64 1)), none, 0, []⟩,
    ⟨some 44, .nilck (.t 39), none, 0, []⟩,
    ⟨some 45, .fad 0 (.t 44), none, 0, []⟩,
    ⟨none, .store 1 (.t 45) (.t 43), none, 0, []⟩])
  (.seq (.seq (.reg false [0, 3, 47] [⟨some 46, .fad 1 (.t 3), none, 0, []⟩,
    ⟨some 47, .load none (.t 46), none, 0, []⟩])
  (.block 2 (.seq (.reg false [0, 3, 47, 48] [⟨some 49, .bin .eql .num (.t 47) (.c (.int .i64 1)), none, 0, []⟩,
    ⟨some 48, .mv (.t 49), none, 0, []⟩])
  (.cond (.t 48) (.seq (.reg false [0, 3] [⟨some 50, .mv (.t 0), none, 0, []⟩,
    ⟨some 51, .nilck (.t 50), none, 0, []⟩,
    ⟨some 52, .fad 1 (.t 51), none, 0, []⟩,
    ⟨some 53, .load none (.t 52), none, 0, []⟩,
    ⟨some 54, .bin .add .num (.t 53) (.c (.int .i64 1)), none, 0, []⟩,
    ⟨some 55, .nilck (.t 50), none, 0, []⟩,
    ⟨some 56, .fad 1 (.t 55), none, 0, []⟩,
    ⟨none, .store 1 (.t 56) (.t 54), none, 0, []⟩])
  (.reg false [0, 3] [⟨some 57, .mv (.t 0), none, 0, []⟩,
    ⟨some 58, .nilck (.t 57), none, 0, []⟩,
    ⟨some 59, .fad 3 (.t 58), none, 0, []⟩,
    ⟨none, .store 1 (.t 59) (.c (.bool true)), none, 0, []⟩]))
  (.seq (.reg false [0, 3, 47, 60] [⟨some 61, .bin .eql .num (.t 47) (.c (.int .i64 6)), none, 0, []⟩,
    ⟨some 60, .mv (.t 61), none, 0, []⟩])
  (.cond (.t 60) (.reg false [0, 3] [⟨some 62, .mv (.t 0), none, 0, []⟩,
    ⟨some 63, .nilck (.t 62), none, 0, []⟩,
    ⟨some 64, .fad 3 (.t 63), none, 0, []⟩,
    ⟨none, .store 1 (.t 64) (.c (.bool false)), none, 0, []⟩])
  (.seq (.reg false [0, 3, 65] [⟨some 66, .bin .eql .num (.t 47) (.c (.int .i64 7)), none, 0, []⟩,
    ⟨some 65, .mv (.t 66), none, 0, []⟩])
  (.cond (.t 65) (.reg false [0, 3] [⟨some 67, .mv (.t 0), none, 0, []⟩,
    ⟨some 68, .nilck (.t 67), none, 0, []⟩,
    ⟨some 69, .fad 4 (.t 68), none, 0, []⟩,
    ⟨none, .store 1 (.t 69) (.c (.bool true)), none, 0, []⟩])
  (.skip)))))))))
  (.seq (.reg false [0, 3, 6] [⟨some 6, .mv (.c (.sl none 0 0 0)), none, 0, []⟩])
  (.seq (.seq (.reg false [0, 3, 6, 7] [⟨some 7, .mv (.c (.int .i64 0)), none, 0, []⟩])
  (.block 3 (.loop [0, 3, 6, 7] burinref17_order_come_l0)))
  (.seq (.seq (.reg false [0, 3, 6, 119] [⟨some 118, .fad 5 (.t 3), none, 0, []⟩,
    ⟨some 119, .load none (.t 118), none, 0, []⟩])
  (.cond (.t 119) (.reg false [0, 6] [⟨some 120, .mv (.t 6), none, 0, []⟩,
    ⟨some 121, .fad 0 (.t 3), none, 0, []⟩,
    ⟨some 122, .load none (.t 121), none, 0, []⟩,
    ⟨some 123, .bslice 1 [.int .i64 0] 1 [(0, (.t 122))], none, 0, []⟩,
    ⟨some 124, .append 1 8 (.t 120) (.t 123), none, 0, []⟩,
    ⟨some 6, .mv (.t 124), none, 0, []⟩])
  (.skip)))
  (.seq (.reg false [] [⟨some 125, .mv (.t 0), none, 0, []⟩,
    ⟨some 126, .mv (.t 6), none, 0, []⟩,
    ⟨some 127, .nilck (.t 125), none, 0, []⟩,
    ⟨some 128, .fad 5 (.t 127), none, 0, []⟩,
    ⟨none, .store 1 (.t 128) (.t 126), none, 0, []⟩])
  (.seq (.reg false [4] [⟨some 4, .mv (.c (.int .i64 0)), none, 0, []⟩])
  (.ret)))))))))))⟩

/-- (*burin/burinref17.order).place -/
def burinref17_order_place : AFun := ⟨2, 84, true, [.t 4],
  .seq (.reg false [0, 3] [⟨some 3, .box 7 (.t 1), none, 0, []⟩,
    ⟨some 4, .mv (.c (.bool false)), none, 0, []⟩])
  (.seq (.seq (.reg false [0, 3, 6] [⟨some 5, .fad 1 (.t 3), none, 0, []⟩,
    ⟨some 6, .load none (.t 5), none, 0, []⟩])
  (.block 0 (.seq (.reg false [0, 3, 6, 7] [⟨some 8, .bin .eql .num (.t 6) (.c (.int .i64 1)), none, 0, []⟩,
    ⟨some 7, .mv (.t 8), none, 0, []⟩])
  (.cond (.t 7) (.seq (.reg true [4] [⟨some 9, .mv (.t 0), none, 0, []⟩,
    ⟨some 10, .nilck (.t 9), none, 1, []⟩,
    ⟨some 11, .fad 3 (.t 10), none, 2, []⟩,
    ⟨some 12, .load none (.t 11), none, 3, []⟩,
    ⟨some 13, .un .not (.t 12), none, 4, []⟩,
    ⟨some 14, .mv (.t 13), none, 5, []⟩,
    ⟨some 15, .fad 2 (.t 3), some (14, true), 6, []⟩,
    ⟨some 16, .load none (.t 15), some (14, true), 7, []⟩,
    ⟨some 17, .mv (.t 0), some (14, true), 8, []⟩,
    ⟨some 18, .nilck (.t 17), some (14, true), 9, []⟩,
    ⟨some 19, .fad 1 (.t 18), some (14, true), 10, []⟩,
    ⟨some 20, .load none (.t 19), some (14, true), 11, []⟩,
    ⟨some 21, .bin .add .num (.t 20) (.c (.int .i64 1)), some (14, true), 12, []⟩,
    ⟨some 22, .bin .eql .num (.t 16) (.t 21), some (14, true), 13, []⟩,
    ⟨some 23, .pick (.t 14) (.t 22) (.c (.bool false)), none, 14, []⟩,
    ⟨some 24, .mv (.t 23), none, 15, []⟩,
    ⟨some 25, .fad 2 (.t 3), some (24, true), 16, []⟩,
    ⟨some 26, .load none (.t 25), some (24, true), 17, []⟩,
    ⟨some 27, .mv (.t 0), some (24, true), 18, []⟩,
    ⟨some 28, .nilck (.t 27), some (24, true), 19, []⟩,
    ⟨some 29, .fad 2 (.t 28), some (24, true), 20, []⟩,
    ⟨some 30, .load none (.t 29), some (24, true), 21, []⟩,
    ⟨some 31, .bin .leq .num (.t 26) (.t 30), some (24, true), 22, []⟩,
    ⟨some 32, .pick (.t 24) (.t 31) (.c (.bool false)), none, 23, []⟩,
    ⟨some 4, .mv (.t 32), none, 24, []⟩])
  (.ret))
  (.seq (.reg false [0, 3, 6, 33] [⟨some 34, .bin .eql .num (.t 6) (.c (.int .i64 2)), none, 0, []⟩,
    ⟨some 33, .mv (.t 34), none, 0, []⟩])
  (.cond (.t 33) (.seq (.reg true [4] [⟨some 35, .fad 2 (.t 3), none, 0, []⟩,
    ⟨some 36, .load none (.t 35), none, 1, []⟩,
    ⟨some 37, .bin .eql .num (.t 36) (.c (.int .i64 0)), none, 2, []⟩,
    ⟨some 38, .mv (.t 37), none, 3, []⟩,
    ⟨some 39, .mv (.t 0), some (38, false), 4, []⟩,
    ⟨some 40, .nilck (.t 39), some (38, false), 5, []⟩,
    ⟨some 41, .fad 3 (.t 40), some (38, false), 6, []⟩,
    ⟨some 42, .load none (.t 41), some (38, false), 7, []⟩,
    ⟨some 43, .mv (.t 42), some (38, false), 8, []⟩,
    ⟨some 44, .fad 2 (.t 3), some (43, true), 9, []⟩,
    ⟨some 45, .load none (.t 44), some (43, true), 10, []⟩,
    ⟨some 46, .mv (.t 0), some (43, true), 11, []⟩,
    ⟨some 47, .nilck (.t 46), some (43, true), 12, []⟩,
    ⟨some 48, .fad 1 (.t 47), some (43, true), 13, []⟩,
    ⟨some 49, .load none (.t 48), some (43, true), 14, []⟩,
    ⟨some 50, .bin .eql .num (.t 45) (.t 49), some (43, true), 15, []⟩,
    ⟨some 51, .pick (.t 43) (.t 50) (.c (.bool false)), some (38, false), 16, []⟩,
    ⟨some 52, .pick (.t 38) (.c (.bool true)) (.t 51), none, 17, []⟩,
    ⟨some 4, .mv (.t 52), none, 18, []⟩])
  (.ret))
  (.seq (.reg false [0, 3, 53] [⟨some 54, .bin .eql .num (.t 6) (.c (.int .i64 7)), none, 0, []⟩,
    ⟨some 53, .mv (.t 54), none, 0, []⟩])
  (.cond (.t 53) (.seq (.reg true [4] [⟨some 55, .mv (.t 0), none, 0, []⟩,
    ⟨some 56, .nilck (.t 55), none, 1, []⟩,
    ⟨some 57, .fad 3 (.t 56), none, 2, []⟩,
    ⟨some 58, .load none (.t 57), none, 3, []⟩,
    ⟨some 59, .un .not (.t 58), none, 4, []⟩,
    ⟨some 60, .mv (.t 59), none, 5, []⟩,
    ⟨some 61, .mv (.t 0), some (60, true), 6, []⟩,
    ⟨some 62, .nilck (.t 61), some (60, true), 7, []⟩,
    ⟨some 63, .fad 1 (.t 62), some (60, true), 8, []⟩,
    ⟨some 64, .load none (.t 63), some (60, true), 9, []⟩,
    ⟨some 65, .mv (.t 0), some (60, true), 10, []⟩,
    ⟨some 66, .nilck (.t 65), some (60, true), 11, []⟩,
    ⟨some 67, .fad 2 (.t 66), some (60, true), 12, []⟩,
    ⟨some 68, .load none (.t 67), some (60, true), 13, []⟩,
    ⟨some 69, .bin .eql .num (.t 64) (.t 68), some (60, true), 14, []⟩,
    ⟨some 70, .pick (.t 60) (.t 69) (.c (.bool false)), none, 15, []⟩,
    ⟨some 4, .mv (.t 70), none, 16, []⟩])
  (.ret))
  (.skip)))))))))
  (.seq (.reg true [4] [⟨some 71, .mv (.t 0), none, 0, []⟩,
    ⟨some 72, .nilck (.t 71), none, 1, []⟩,
    ⟨some 73, .fad 3 (.t 72), none, 2, []⟩,
    ⟨some 74, .load none (.t 73), none, 3, []⟩,
    ⟨some 75, .mv (.t 74), none, 4, []⟩,
    ⟨some 76, .fad 2 (.t 3), some (75, true), 5, []⟩,
    ⟨some 77, .load none (.t 76), some (75, true), 6, []⟩,
    ⟨some 78, .mv (.t 0), some (75, true), 7, []⟩,
    ⟨some 79, .nilck (.t 78), some (75, true), 8, []⟩,
    ⟨some 80, .fad 1 (.t 79), some (75, true), 9, []⟩,
    ⟨some 81, .load none (.t 80), some (75, true), 10, []⟩,
    ⟨some 82, .bin .eql .num (.t 77) (.t 81), some (75, true), 11, []⟩,
    ⟨some 83, .pick (.t 75) (.t 82) (.c (.bool false)), none, 12, []⟩,
    ⟨some 4, .mv (.t 83), none, 13, []⟩])
  (.ret)))⟩

def burinref17_has_l0 : Cd := .seq (.seq (.reg false [0, 1, 5, 9] [⟨some 6, .mv (.t 5), none, 0, []⟩,
    ⟨some 7, .mv (.t 0), none, 0, []⟩,
    ⟨some 8, .len none (.t 7), none, 0, []⟩,
    ⟨some 9, .bin .lss .num (.t 6) (.t 8), none, 0, []⟩])
  (.cond (.t 9) (.skip)
  (.exit 0)))
  (.seq (.block 1 (.seq (.reg false [0, 1, 5, 17] [⟨some 12, .mv (.t 0), none, 0, []⟩,
    ⟨some 13, .mv (.t 5), none, 0, []⟩,
    ⟨some 14, .iad none 1 (.t 12) (.t 13), none, 0, []⟩,
    ⟨some 15, .load none (.t 14), none, 0, []⟩,
    ⟨some 16, .mv (.t 1), none, 0, []⟩,
    ⟨some 17, .bin .eql .num (.t 15) (.t 16), none, 0, []⟩])
  (.cond (.t 17) (.seq (.reg false [4] [⟨some 4, .mv (.c (.bool true)), none, 0, []⟩])
  (.ret))
  (.skip))))
  (.reg false [0, 1, 5] [⟨some 10, .mv (.t 5), none, 0, []⟩,
    ⟨some 11, .bin .add .num (.t 10) (.c (.int .i64 1)), none, 0, []⟩,
    ⟨some 5, .mv (.t 11), none, 0, []⟩]))
/-- burin/burinref17.has -/
def burinref17_has : AFun := ⟨2, 18, true, [.t 4],
  .seq (.reg false [0, 1] [⟨some 4, .mv (.c (.bool false)), none, 0, []⟩])
  (.seq (.seq (.reg false [0, 1, 5] [⟨some 5, .mv (.c (.int .i64 0)), none, 0, []⟩])
  (.block 0 (.loop [0, 1, 5] burinref17_has_l0)))
  (.seq (.reg false [4] [⟨some 4, .mv (.c (.bool false)), none, 0, []⟩])
  (.ret)))⟩

/-- A program that has them. -/
structure HasRf17 (P : Prog) : Prop where
  h_burinref17_Write : P 228 = some burinref17_Write
  h_burinref17_Ordered : P 227 = some burinref17_Ordered
  h_burinref17_order_come : P 229 = some burinref17_order_come
  h_burinref17_order_place : P 231 = some burinref17_order_place
  h_burinref17_has : P 230 = some burinref17_has

end Go.Ab
namespace Go.Ab
section
variable {P : Prog} {H : Heap} {R : List As} {Q : Out → Heap → Prop}
def refC (most : Nat) (o : OSt) (d : Bool) (hv : V) : List V := [.int .i64 o.next, .int .i64 o.pages, .int .i64 most, .bool o.op, .bool d, hv]
def hasF (v : V) (n : Int) (i : Nat) : Fr := ⟨[(0, v), (1, .int .i64 n), (5, .int .i64 (i : Nat))], []⟩
theorem hasR_ct (hp : HasRf17 P) {v : V} {l : List Int} {n : Int} (hv : Arr H v 1 l.length (i64s l)) (hl : l.length ≤ 140737488355328) (hQ : Q (.ret (.bool (decide (n ∈ l)))) H) : Call P 230 [v, .int .i64 n] H Q := by
  obtain ⟨a1, c1, e1, hs1⟩ := hv.shape
  subst hs1
  refine call_of hp.h_burinref17_has rfl ?_
  simp -implicitDefEqProofs -dsimp (disch := omega) only [go_sem, dec_t, dec_f, ]
  refine loop_cnt l.length (hasF (.sl a1 l.length c1 e1) n) (fun i H' => H' = H ∧ n ∉ l.take i) (fun i H' K hi hS hn hx1 hx2 => ?_) 0 H (Nat.zero_le _) ⟨rfl, by simp⟩
  obtain ⟨rfl, ht⟩ := hS
  unfold hasF
  by_cases hlt : i < l.length
  · obtain ⟨b3, o3, c3, hv3, hr3⟩ := arr_int hv hlt
    cases hv3
    have t1 := List.take_succ_eq_append_getElem hlt
    have hm : l[i] ∈ l := List.getElem_mem hlt
    by_cases hne : l[i] = n
    · rw [hne] at hm
      rw [dec_t hm] at hQ
      generalize l[i] = z at *
      simp -implicitDefEqProofs -dsimp (disch := omega) only [go_sem, dec_t, dec_f, burinref17_has_l0, Int.toNat_natCast, Nat.mul_one, hr3]
      rw [hx2]
      simp -implicitDefEqProofs -dsimp (disch := omega) only [go_sem, dec_t, dec_f, ]
      exact hQ
    · have hx := hn hlt H' ⟨rfl, by rw [t1]; simp only [List.mem_append, List.mem_singleton, not_or]; exact ⟨ht, fun e => hne e.symm⟩⟩
      generalize l[i] = z at *
      simp -implicitDefEqProofs -dsimp (disch := omega) only [go_sem, dec_t, dec_f, burinref17_has_l0, Int.toNat_natCast, Nat.mul_one, hr3, hne, w64, cadd1]
      exact hx
  · have : i = l.length := by omega
    subst this
    rw [List.take_length] at ht
    rw [dec_f ht] at hQ
    simp -implicitDefEqProofs -dsimp (disch := omega) only [go_sem, dec_t, dec_f, burinref17_has_l0]
    rw [hx1]
    simp -implicitDefEqProofs -dsimp (disch := omega) only [go_sem, dec_t, dec_f, ]
    exact hQ
set_option maxHeartbeats 1000000 in
theorem place_ct (hp : HasRf17 P) {b most : Nat} {o : OSt} {d : Bool} {hv v1 v2 v3 : V} {s : Sg} (hpg : o.pages ≤ most) (hm : most ≤ 1000000) (hs : Hs H (Cel b (refC most o d hv) :: R)) (h1 : one v1 = true) (h2 : one v2 = true) (h3 : one v3 = true)
    (hQ : ∀ H', Hs H' (Cel b (refC most o d hv) :: R) → Q (.ret (.bool (mayS most o s))) H') : Call P 231 [.ptr (some (b, 0)), .agg (s.cells v1 v2 v3)] H Q := by
  refine call_of hp.h_burinref17_order_place rfl ?_
  obtain ⟨num, kind, page, refs, keep, stay, data⟩ := s
  obtain ⟨next, pages, op, held⟩ := o
  dsimp only at hpg
  have g1 := hs.alloc (l := Sg.cells ⟨num, kind, page, refs, keep, stay, data⟩ v1 v2 v3)
  replace hQ := hQ _ g1.tail
  have r1 := rd_s g1.cel
  have r2 := rd_s (Hs.p1 g1).cel
  unfold refC Sg.cells at *
  unfold mayS at hQ
  dsimp only at *
  clear hs g1
  by_cases k1 : kind = 1
  · rw [if_pos k1] at hQ
    cases op with
    | true =>
      simp -implicitDefEqProofs -dsimp (disch := omega) only [go_sem, dec_t, dec_f, r1, r2, d_gre]
      exact hQ
    | false =>
      by_cases k2 : page = (pages : Int) + 1
      · by_cases k3 : page ≤ (most : Int)
        · rw [dec_t k2, dec_t k3] at hQ
          simp -implicitDefEqProofs -dsimp (disch := omega) only [go_sem, dec_t, dec_f, r1, r2, d_gre, w64]
          exact hQ
        · rw [dec_t k2, dec_f k3] at hQ
          simp -implicitDefEqProofs -dsimp (disch := omega) only [go_sem, dec_t, dec_f, r1, r2, d_gre, w64]
          exact hQ
      · rw [dec_f k2] at hQ
        simp -implicitDefEqProofs -dsimp (disch := omega) only [go_sem, dec_t, dec_f, r1, r2, d_gre, w64]
        exact hQ
  rw [if_neg k1] at hQ
  by_cases k2 : kind = 2
  · rw [if_pos k2] at hQ
    by_cases k3 : page = 0
    · rw [dec_t k3] at hQ
      simp -implicitDefEqProofs -dsimp (disch := omega) only [go_sem, dec_t, dec_f, r1, r2, d_gre]
      exact hQ
    · rw [dec_f k3] at hQ
      cases op with
      | true =>
        by_cases k4 : page = (pages : Int)
        · rw [dec_t k4] at hQ
          simp -implicitDefEqProofs -dsimp (disch := omega) only [go_sem, dec_t, dec_f, r1, r2, d_gre]
          exact hQ
        · rw [dec_f k4] at hQ
          simp -implicitDefEqProofs -dsimp (disch := omega) only [go_sem, dec_t, dec_f, r1, r2, d_gre]
          exact hQ
      | false =>
        simp -implicitDefEqProofs -dsimp (disch := omega) only [go_sem, dec_t, dec_f, r1, r2, d_gre]
        exact hQ
  rw [if_neg k2] at hQ
  by_cases k3 : kind = 7
  · rw [if_pos k3] at hQ
    cases op with
    | true =>
      simp -implicitDefEqProofs -dsimp (disch := omega) only [go_sem, dec_t, dec_f, r1, r2, d_gre]
      exact hQ
    | false =>
      by_cases k4 : pages = most
      · rw [dec_t k4] at hQ
        simp -implicitDefEqProofs -dsimp (disch := omega) only [go_sem, dec_t, dec_f, r1, r2, d_gre]
        exact hQ
      · rw [dec_f k4] at hQ
        simp -implicitDefEqProofs -dsimp (disch := omega) only [go_sem, dec_t, dec_f, r1, r2, d_gre]
        exact hQ
  rw [if_neg k3] at hQ
  cases op with
  | true =>
    by_cases k4 : page = (pages : Int)
    · rw [dec_t k4] at hQ
      simp -implicitDefEqProofs -dsimp (disch := omega) only [go_sem, dec_t, dec_f, r1, r2, d_gre]
      exact hQ
    · rw [dec_f k4] at hQ
      simp -implicitDefEqProofs -dsimp (disch := omega) only [go_sem, dec_t, dec_f, r1, r2, d_gre]
      exact hQ
  | false =>
    simp -implicitDefEqProofs -dsimp (disch := omega) only [go_sem, dec_t, dec_f, r1, r2, d_gre]
    exact hQ
end
end Go.Ab
namespace Go.Ab
section
variable {P : Prog} {H : Heap} {R : List As} {Q : Out → Heap → Prop}
theorem drp_snoc : ∀ (rs : List Int) (ks : List Bool) (n : Int) {k : Nat} (h1 : k < rs.length) (h2 : k < ks.length), drp (rs.take (k + 1)) (ks.take (k + 1)) n = (drp (rs.take k) (ks.take k) n || (decide (n = rs[k]) && !ks[k]))
  | r :: rs, q :: ks, n, 0, _, _ => by simp [drp]
  | r :: rs, q :: ks, n, k + 1, h1, h2 => by
    have := drp_snoc rs ks n (k := k) (by simpa using h1) (by simpa using h2)
    simp only [List.take_succ_cons, drp, this, List.getElem_cons_succ, Bool.or_assoc]
  | [], _, _, _, h1, _ => by simp at h1
  | _ :: _, [], _, _, _, h2 => by simp at h2
def come2F (b bx i : Nat) : Fr := ⟨[(0, .ptr (some (b, 0))), (3, .ptr (some (bx, 0))), (5, .int .i64 (i : Nat))], []⟩
theorem come_l2 (hp : HasRf17 P) {b bx : Nat} {hv v1 : V} {held refs : List Int} {a0 a1 a2 a4 a5 a6 c0 c1 c2 c3 c4 : V} (hr : Arr H v1 1 refs.length (i64s refs)) (hl : refs.length ≤ 140737488355328) (hh : Arr H hv 1 held.length (i64s held)) (hl2 : held.length ≤ 140737488355328)
    (hb : H.get b = .cells [c0, c1, c2, c3, c4, hv] true) (hx : H.get bx = .cells [a0, a1, a2, v1, a4, a5, a6] true) {Qp : Post} {s' t'}
    (h1 : (∀ n ∈ refs, n ∈ held) → ∀ ex, Qp (.exit 0) ⟨(0, .ptr (some (b, 0))) :: (3, .ptr (some (bx, 0))) :: ex, []⟩ H) (h2 : (∃ n ∈ refs, n ∉ held) → ∀ ex, Qp .ret ⟨(4, .int .i64 162) :: ex, []⟩ H) :
    loopL (Call P) [0, 3, 5] burinref17_order_come_l2 Qp s' t' (come2F b bx 0) H := by
  refine loop_cnt refs.length (come2F b bx) (fun i H' => H' = H ∧ ∀ n ∈ refs.take i, n ∈ held) (fun i H' K hi hS hn hx1 hx2 => ?_) 0 H (Nat.zero_le _) ⟨rfl, by simp⟩
  obtain ⟨rfl, hall⟩ := hS
  have rb := rd_s hb
  have rx := rd_s hx
  unfold come2F
  by_cases hlt : i < refs.length
  · obtain ⟨b3, o3, z3, rfl, rl⟩ := arr_int hr hlt
    have ht := List.take_succ_eq_append_getElem hlt
    have hm : refs[i] ∈ refs := List.getElem_mem hlt
    have hn := hn hlt H'
    generalize refs[i] = n at *
    simp -implicitDefEqProofs -dsimp (disch := omega) only [go_sem, dec_t, dec_f, burinref17_order_come_l2, Int.toNat_natCast, Nat.mul_one, rb, rx, rl]
    refine hasR_ct hp hh hl2 ?_
    by_cases hin : n ∈ held
    · rw [dec_t hin]
      simp -implicitDefEqProofs -dsimp (disch := omega) only [go_sem, dec_t, dec_f, w64, cadd1]
      exact hn ⟨rfl, fun m hm => by rw [ht] at hm; rcases List.mem_append.1 hm with h | h; exact hall m h; rw [List.mem_singleton.1 h]; exact hin⟩
    · rw [dec_f hin]
      simp -implicitDefEqProofs -dsimp (disch := omega) only [go_sem, dec_t, dec_f, ]
      rw [hx2]
      exact h2 ⟨n, hm, hin⟩ _
  · have : i = refs.length := by omega
    subst this
    rw [List.take_length] at hall
    obtain ⟨a, c, e, rfl⟩ := hr.shape
    simp -implicitDefEqProofs -dsimp (disch := omega) only [go_sem, dec_t, dec_f, burinref17_order_come_l2, rx]
    rw [hx1]
    exact h1 hall _
def come1F (b bx : Nat) (lv : V) (i : Nat) (x : Nat × Bool) : Fr := ⟨[(0, .ptr (some (b, 0))), (3, .ptr (some (bx, 0))), (6, lv), (7, .int .i64 (i : Nat)), (8, .bool x.2), (9, .int .i64 (x.1 : Nat))], []⟩
theorem come_l1 {b bx i : Nat} {lv hv v1 v2 : V} {held refs : List Int} {keep : List Bool} {a0 a1 a2 a5 a6 c0 c1 c2 c3 c4 : V} (hr : Arr H v1 1 refs.length (i64s refs)) (hl : refs.length ≤ 140737488355328) (hk : Arr H v2 1 keep.length (bools keep)) (hkl : keep.length = refs.length) (hh : Arr H hv 1 held.length (i64s held)) (hi : i < held.length) (hl2 : held.length ≤ 140737488355328)
    (hb : H.get b = .cells [c0, c1, c2, c3, c4, hv] true) (hx : H.get bx = .cells [a0, a1, a2, v1, v2, a5, a6] true) {Qp : Post} {s' t'}
    (h1 : ∀ ex, Qp (.exit 5) ⟨(0, .ptr (some (b, 0))) :: (3, .ptr (some (bx, 0))) :: (6, lv) :: (7, .int .i64 (i : Nat)) :: (8, .bool (!drp refs keep held[i])) :: ex, []⟩ H) :
    loopL (Call P) [0, 3, 6, 7, 8, 9] burinref17_order_come_l1 Qp s' t' (come1F b bx lv i (0, true)) H := by
  refine loop_dec (σ := Nat × Bool) (fun x => refs.length - x.1) (come1F b bx lv i) (fun x H' => H' = H ∧ x.1 ≤ refs.length ∧ x.2 = !drp (refs.take x.1) (keep.take x.1) held[i]) (fun x H' K ok hn hx1 hx2 => ?_) (0, true) H ⟨rfl, Nat.zero_le _, by simp [drp]⟩
  obtain ⟨k, q⟩ := x
  obtain ⟨rfl, hk1, hq⟩ := ok
  dsimp only at hk1 hq hn
  have rb := rd_s hb
  have rx := rd_s hx
  obtain ⟨b5, o5, z5, rfl, rh⟩ := arr_int hh hi
  unfold come1F
  by_cases hlt : k < refs.length
  · obtain ⟨b3, o3, z3, rfl, rl⟩ := arr_int hr hlt
    obtain ⟨b4, o4, z4, rfl, rk⟩ := arr_bool hk (i := k) (by omega)
    have hd := drp_snoc refs keep held[i] hlt (by omega)
    have hn := fun q' => hn (k + 1, q') H' (by dsimp only; omega)
    dsimp only at hn
    rw [hd] at hn
    generalize drp (refs.take k) (keep.take k) held[i] = dd at *
    subst hq
    generalize refs[k] = n at *
    generalize keep[k] = kk at *
    generalize held[i] = hh at *
    by_cases e : hh = n
    · subst e
      rw [dec_t rfl] at hn
      cases kk with
      | true =>
        simp -implicitDefEqProofs -dsimp (disch := omega) only [go_sem, dec_t, dec_f, burinref17_order_come_l1, Int.toNat_natCast, Nat.mul_one, rb, rx, rl, rk, rh, d_gre, w64, cadd1]
        exact hn _ ⟨rfl, by omega, by cases dd <;> rfl⟩
      | false =>
        simp -implicitDefEqProofs -dsimp (disch := omega) only [go_sem, dec_t, dec_f, burinref17_order_come_l1, Int.toNat_natCast, Nat.mul_one, rb, rx, rl, rk, rh, d_gre, w64, cadd1]
        exact hn _ ⟨rfl, by omega, by cases dd <;> rfl⟩
    · rw [dec_f e] at hn
      simp -implicitDefEqProofs -dsimp (disch := omega) only [go_sem, dec_t, dec_f, burinref17_order_come_l1, Int.toNat_natCast, Nat.mul_one, rb, rx, rl, rk, rh, d_gre, w64, cadd1]
      exact hn _ ⟨rfl, by omega, by cases dd <;> rfl⟩
  · have : k = refs.length := by omega
    subst this
    rw [List.take_length, ← hkl, List.take_length] at hq
    subst hq
    obtain ⟨a, c, e, rfl⟩ := hr.shape
    simp -implicitDefEqProofs -dsimp (disch := omega) only [go_sem, dec_t, dec_f, burinref17_order_come_l1, rx]
    rw [hx1]
    exact h1 _
end
end Go.Ab
namespace Go.Ab
section
variable {P : Prog} {H : Heap} {R : List As} {Q : Out → Heap → Prop}
structure C0X where
  i : Nat
  l : V
def C0X.fr (b bx : Nat) (x : C0X) : Fr := ⟨[(0, .ptr (some (b, 0))), (3, .ptr (some (bx, 0))), (6, x.l), (7, .int .i64 (x.i : Nat))], []⟩
theorem i64s_one (l : List Int) : (i64s l).all one = true := by simp [i64s, one]
theorem come_l0 {b bx : Nat} {hv v1 v2 : V} {held refs : List Int} {keep : List Bool} {a0 a1 a2 a5 a6 c0 c1 c2 c3 c4 : V} (hR : ∀ H', Hs H' R → Arr H' v1 1 refs.length (i64s refs) ∧ Arr H' v2 1 keep.length (bools keep)) (hl : refs.length ≤ 140737488355328) (hkl : keep.length = refs.length) (hl2 : held.length ≤ 1000000000)
    (hs : Hs H (Lst hv 1 held.length (i64s held) :: Cel b [c0, c1, c2, c3, c4, hv] :: Cel bx [a0, a1, a2, v1, v2, a5, a6] :: R)) {Qp : Post} {s' t'}
    (h1 : ∀ lv H' ex, Hs H' (Lst lv 1 (held.filter fun n => !drp refs keep n).length (i64s (held.filter fun n => !drp refs keep n)) :: Lst hv 1 held.length (i64s held) :: Cel b [c0, c1, c2, c3, c4, hv] :: Cel bx [a0, a1, a2, v1, v2, a5, a6] :: R) → Qp (.exit 3) ⟨(0, .ptr (some (b, 0))) :: (3, .ptr (some (bx, 0))) :: (6, lv) :: ex, []⟩ H') :
    loopL (Call P) [0, 3, 6, 7] burinref17_order_come_l0 Qp s' t' (C0X.fr b bx ⟨0, .sl none 0 0 0⟩) H := by
  refine loop_dec (σ := C0X) (fun x => held.length - x.i) (C0X.fr b bx) (fun x H => x.i ≤ held.length ∧ Hs H (Lst x.l 1 ((held.take x.i).filter fun n => !drp refs keep n).length (i64s ((held.take x.i).filter fun n => !drp refs keep n)) :: Lst hv 1 held.length (i64s held) :: Cel b [c0, c1, c2, c3, c4, hv] :: Cel bx [a0, a1, a2, v1, v2, a5, a6] :: R))
    (fun x H K ok hn hx hy => ?_) ⟨0, .sl none 0 0 0⟩ H ⟨Nat.zero_le _, hs.lst (Same.refl _ _) (Or.inl ⟨rfl, by simp, by simp [i64s]⟩) fun b h => h.elim⟩
  obtain ⟨i, lv⟩ := x
  obtain ⟨hi, hS⟩ := ok
  dsimp only at hi hS hn
  have ha := (Hs.p1 hS).own.arr
  have rb := rd_s (Hs.p2 hS).cel
  unfold C0X.fr
  by_cases hlt : i < held.length
  · have ht : (held.take (i + 1)).filter (fun n => !drp refs keep n) = (held.take i).filter (fun n => !drp refs keep n) ++ if drp refs keep held[i] then [] else [held[i]] := by
      rw [List.take_succ_eq_append_getElem hlt, List.filter_append]
      cases h : drp refs keep held[i] <;> simp [h]
    have hfl := List.length_filter_le (fun n => !drp refs keep n) (held.take i)
    rw [List.length_take, Nat.min_eq_left hi] at hfl
    obtain ⟨k1, k2⟩ := hR H hS.tail.tail.tail.tail
    obtain ⟨b5, o5, z5, hv5, rh⟩ := arr_int ha hlt
    have hcb := (Hs.p2 hS).cel
    have hcx := (Hs.p3 hS).cel
    simp -implicitDefEqProofs -dsimp (disch := omega) only [go_sem, dec_t, dec_f, burinref17_order_come_l0, rb]
    rw [hv5]
    simp -implicitDefEqProofs -dsimp (disch := omega) only [go_sem, dec_t, dec_f, rb]
    refine come_l1 (lv := lv) k1 hl k2 hkl ha hlt (by omega) hcb hcx fun ex => ?_
    cases hd : drp refs keep held[i] with
    | true =>
      rw [hd, if_pos rfl, List.append_nil] at ht
      simp -implicitDefEqProofs -dsimp (disch := omega) only [go_sem, dec_t, dec_f, w64, cadd1]
      refine hn ⟨i + 1, lv⟩ H (by dsimp only; omega) ⟨by dsimp only; omega, ?_⟩
      dsimp only
      rw [ht]
      exact hS
    | false =>
      rw [hd, if_neg (by decide)] at ht
      obtain ⟨l6, H6, q6, o6, s6, f6⟩ := app_one (e := 1) (eb := 8) (m := 1) (M := i64s [held[i]]) hS.own rfl (i64s_one _) (by omega) (by omega)
      have g6 := hS.lst' s6 o6 f6
      rw [show i64s ((held.take i).filter fun n => !drp refs keep n) ++ i64s [held[i]] = i64s ((held.take (i + 1)).filter fun n => !drp refs keep n) by rw [ht]; simp [i64s],
        show ((held.take i).filter fun n => !drp refs keep n).length + 1 = ((held.take (i + 1)).filter fun n => !drp refs keep n).length by rw [ht]; simp] at g6
      rw [show i64s [held[i]] = [.int .i64 held[i]] from rfl] at q6
      rw [hv5] at rb
      generalize held[i] = n at *
      have hn := hn ⟨i + 1, l6⟩ H6 (by dsimp only; omega) ⟨by dsimp only; omega, g6⟩
      clear ht hd o6 s6 f6
      simp -implicitDefEqProofs -dsimp (disch := omega) only [go_sem, dec_t, dec_f, rb, Int.toNat_natCast, Nat.mul_one, rh, q6, w64, cadd1]
      exact hn
  · have : i = held.length := by omega
    subst this
    rw [List.take_length] at hS
    obtain ⟨a, c, e, hv5⟩ := ha.shape
    simp -implicitDefEqProofs -dsimp (disch := omega) only [go_sem, dec_t, dec_f, burinref17_order_come_l0, rb]
    rw [hv5]
    simp -implicitDefEqProofs -dsimp (disch := omega) only [go_sem, dec_t, dec_f, ]
    rw [hx]
    rw [hv5] at h1 hS
    exact h1 lv H _ hS
end
end Go.Ab
namespace Go.Ab
section
variable {P : Prog} {H : Heap} {R : List As} {Q : Out → Heap → Prop}
set_option maxHeartbeats 2000000 in
theorem come_ct (hp : HasRf17 P) {b most : Nat} {o : OSt} {d : Bool} {hv v1 v2 v3 : V} {s : Sg} (ok : o.Ok most) (hm : most ≤ 1000000) (hn : o.next ≤ 100000000) (hR : ∀ H', Hs H' R → SgR H' v1 v2 v3 s) (hk : s.keep.length = s.refs.length)
    (hs : Hs H (Lst hv 1 o.held.length (i64s o.held) :: Cel b (refC most o d hv) :: R))
    (h0 : comeE most o s = 0 → ∀ hv' H', Hs H' (Lst hv' 1 (comeO o s).held.length (i64s (comeO o s).held) :: Cel b (refC most (comeO o s) (if s.kind = 7 then true else d) hv') :: R) → Q (.ret (.int .i64 0)) H')
    (h1 : comeE most o s ≠ 0 → ∀ H', Hs H' R → Q (.ret (.int .i64 (comeE most o s))) H') : Call P 229 [.ptr (some (b, 0)), .agg (s.cells v1 v2 v3)] H Q := by
  refine call_of hp.h_burinref17_order_come rfl ?_
  have hr0 := hR H hs.tail.tail
  obtain ⟨a1, z1, e1, rfl⟩ := hr0.refs.shape
  obtain ⟨a2, z2, e2, rfl⟩ := hr0.keep.shape
  obtain ⟨a3, z3, e3, rfl⟩ := hr0.data.shape
  have l1 := hr0.ok.l1
  clear hr0
  have oln := ok.ln
  have g1 := hs.alloc (l := s.cells (.sl a1 s.refs.length z1 e1) (.sl a2 s.keep.length z2 e2) (.sl a3 s.data.length z3 e3))
  have r1 := rd_s g1.cel
  have r2 := rd_s (Hs.p2 g1).cel
  have rm := rd_m g1.cel 7
  by_cases kn : s.num = (o.next : Int)
  rotate_left
  · have he : comeE most o s = 161 := by unfold comeE; rw [if_pos kn]
    rw [he] at h1
    have h1 := h1 (by decide) _ g1.tail.tail.tail
    obtain ⟨num, kind, page, refs, keep, stay, data⟩ := s
    unfold Sg.cells refC at *
    dsimp only at *
    simp -implicitDefEqProofs -dsimp (disch := omega) only [go_sem, dec_t, dec_f, r1, r2]
    exact h1
  have e1' : mayS most o s = false → comeE most o s = 151 := fun k => by unfold comeE; rw [if_neg (by simpa using kn), if_pos k]
  have e2' : mayS most o s = true → (∃ n ∈ s.refs, n ∉ o.held) → comeE most o s = 162 := fun k k2 => by unfold comeE; rw [if_neg (by simpa using kn), if_neg (by rw [k]; decide), if_pos k2]
  have e3' : mayS most o s = true → (∀ n ∈ s.refs, n ∈ o.held) → comeE most o s = 0 := fun k k2 => by unfold comeE; rw [if_neg (by simpa using kn), if_neg (by rw [k]; decide), if_neg (fun ⟨n, h1, h2⟩ => h2 (k2 n h1))]
  obtain ⟨num, kind, page, refs, keep, stay, data⟩ := s
  have c1 : Sg.cells ⟨num, kind, page, refs, keep, stay, data⟩ (.sl a1 refs.length z1 e1) (.sl a2 keep.length z2 e2) (.sl a3 data.length z3 e3) = [.int .i64 num, .int .i64 kind, .int .i64 page, .sl a1 refs.length z1 e1, .sl a2 keep.length z2 e2, .bool stay, .sl a3 data.length z3 e3] := rfl
  rw [c1] at r1 r2 rm g1 ⊢
  dsimp only at kn l1 hk e2' e3'
  have r2' := r2
  unfold refC at r2'
  simp -implicitDefEqProofs -dsimp (disch := omega) only [go_sem, dec_t, dec_f, r1, r2', rm]
  generalize hH1 : H.new _ = H1 at *
  generalize hbx : H.next = bx at *
  clear r1 r2 r2' rm hs
  rw [← c1]
  refine place_ct hp ok.pg hm (Hs.p2 g1) rfl rfl rfl fun H2 g2 => ?_
  have g2 := Hs.p2 g2
  cases hmay : mayS most o ⟨num, kind, page, refs, keep, stay, data⟩ with
  | false =>
    rw [e1' hmay] at h1
    have h1 := h1 (by decide) H2 g2.tail.tail.tail
    simp -implicitDefEqProofs -dsimp (disch := omega) only [go_sem, dec_t, dec_f, ]
    exact h1
  | true =>
  simp -implicitDefEqProofs -dsimp (disch := omega) only [go_sem, dec_t, dec_f, ]
  have g2 : Hs H2 (Lst hv 1 o.held.length (i64s o.held) :: Cel b (refC most o d hv) :: Cel bx [.int .i64 num, .int .i64 kind, .int .i64 page, .sl a1 refs.length z1 e1, .sl a2 keep.length z2 e2, .bool stay, .sl a3 data.length z3 e3] :: R) := g2
  unfold refC at g2
  refine come_l2 hp (hR H2 g2.tail.tail.tail).refs l1 g2.own.arr (by omega) (Hs.p1 g2).cel (Hs.p2 g2).cel (fun hall ex => ?_) (fun hno ex => ?_)
  rotate_left
  · rw [e2' hmay hno] at h1
    have h1 := h1 (by decide) H2 g2.tail.tail.tail
    simp -implicitDefEqProofs -dsimp (disch := omega) only [go_sem, dec_t, dec_f, ]
    exact h1
  have hz := e3' hmay hall
  have h0 := h0 hz
  clear h1 e1' e2' e3'
  obtain ⟨nx, hnx⟩ : ∃ nx : Int, nx = ((o.next + 1 : Nat) : Int) := ⟨_, rfl⟩
  have ecast : (o.next : Int) + 1 = nx := by omega
  obtain ⟨ny, hny⟩ : ∃ ny : Int, ny = ((o.pages + 1 : Nat) : Int) := ⟨_, rfl⟩
  have ecast2 : (o.pages : Int) + 1 = ny := by omega
  have hpgs := ok.pg
  have r3 := rd_s (Hs.p1 g2).cel
  have w3 := wr_s (Hs.p1 g2).cel 0
  have g4 := (Hs.p1 g2).put (l' := [.int .i64 nx, .int .i64 o.pages, .int .i64 most, .bool o.op, .bool d, hv])
  have r4 := rd_s (Hs.p2 g4).cel
  have r4b := rd_s g4.cel
  have hnot : num ∉ o.held := fun h => by have := ok.lt _ h; omega
  obtain ⟨c2, hc2⟩ : ∃ c2 : V, c2 = .int .i64 ((comeO o ⟨num, kind, page, refs, keep, stay, data⟩).pages : Nat) := ⟨_, rfl⟩
  obtain ⟨c4, hc4⟩ : ∃ c4 : V, c4 = .bool (comeO o ⟨num, kind, page, refs, keep, stay, data⟩).op := ⟨_, rfl⟩
  obtain ⟨c5, hc5⟩ : ∃ c5 : V, c5 = .bool (if kind = 7 then true else d) := ⟨_, rfl⟩
  have hend : ∀ hv' H', Hs H' (Lst hv' 1 (keepS o.held ⟨num, kind, page, refs, keep, stay, data⟩ ++ if stay then [num] else []).length (i64s (keepS o.held ⟨num, kind, page, refs, keep, stay, data⟩ ++ if stay then [num] else [])) :: Cel b [.int .i64 nx, c2, .int .i64 most, c4, c5, hv'] :: R) → Q (.ret (.int .i64 0)) H' := fun hv' H' h => h0 hv' H' (by
    subst hc2 hc4 hc5 hnx
    exact h)
  clear h0
  have h5 : ∃ H5, Hs H5 (Cel b [.int .i64 nx, c2, .int .i64 most, c4, c5, hv] :: Lst hv 1 o.held.length (i64s o.held) :: Cel bx [.int .i64 num, .int .i64 kind, .int .i64 page, .sl a1 refs.length z1 e1, .sl a2 keep.length z2 e2, .bool stay, .sl a3 data.length z3 e3] :: R) ∧
      H5 = if kind = 1 then ((H2.put b (.cells [.int .i64 nx, .int .i64 o.pages, .int .i64 most, .bool o.op, .bool d, hv] true)).put b (.cells [.int .i64 nx, .int .i64 ny, .int .i64 most, .bool o.op, .bool d, hv] true)).put b (.cells [.int .i64 nx, .int .i64 ny, .int .i64 most, .bool true, .bool d, hv] true)
        else if kind = 6 then (H2.put b (.cells [.int .i64 nx, .int .i64 o.pages, .int .i64 most, .bool o.op, .bool d, hv] true)).put b (.cells [.int .i64 nx, .int .i64 o.pages, .int .i64 most, .bool false, .bool d, hv] true)
        else if kind = 7 then (H2.put b (.cells [.int .i64 nx, .int .i64 o.pages, .int .i64 most, .bool o.op, .bool d, hv] true)).put b (.cells [.int .i64 nx, .int .i64 o.pages, .int .i64 most, .bool o.op, .bool true, hv] true)
        else H2.put b (.cells [.int .i64 nx, .int .i64 o.pages, .int .i64 most, .bool o.op, .bool d, hv] true) := by
    subst hc2 hc4 hc5
    refine ⟨_, ?_, rfl⟩
    by_cases k1 : kind = 1
    · subst k1
      have := ((g4.put (l' := [.int .i64 nx, .int .i64 ny, .int .i64 most, .bool o.op, .bool d, hv])).put (l' := [.int .i64 nx, .int .i64 ny, .int .i64 most, .bool true, .bool d, hv]))
      subst hny
      simpa [comeO] using this
    · by_cases k6 : kind = 6
      · subst k6
        have := g4.put (l' := [.int .i64 nx, .int .i64 o.pages, .int .i64 most, .bool false, .bool d, hv])
        simpa [comeO] using this
      · by_cases k7 : kind = 7
        · subst k7
          have := g4.put (l' := [.int .i64 nx, .int .i64 o.pages, .int .i64 most, .bool o.op, .bool true, hv])
          simpa [comeO] using this
        · simpa [comeO, k1, k6, k7] using g4
  obtain ⟨H5, g5, hH5⟩ := h5
  have w4 := wr_s g4.cel 1
  have g4b := g4.put (l' := [.int .i64 nx, .int .i64 ny, .int .i64 most, .bool o.op, .bool d, hv])
  have w4b := wr_s g4b.cel 3
  have w4c := wr_s g4.cel 3
  have w4d := wr_s g4.cel 4
  have hkk : ∀ H', Hs H' R → Arr H' (.sl a1 refs.length z1 e1) 1 refs.length (i64s refs) ∧ Arr H' (.sl a2 keep.length z2 e2) 1 keep.length (bools keep) := fun H' h => ⟨(hR H' h).refs, (hR H' h).keep⟩
  have go : kind = 1 ∨ kind = 6 ∨ kind = 7 ∨ (kind ≠ 1 ∧ kind ≠ 6 ∧ kind ≠ 7) := by omega
  have fln := List.length_filter_le (fun n => !drp refs keep n) o.held
  unfold keepS at hend
  dsimp only at hend
  rcases go with k | k | k | ⟨k1, k6, k7⟩
  · rw [if_pos k] at hH5
    simp -implicitDefEqProofs -dsimp (disch := omega) only [go_sem, dec_t, dec_f, r3, w3, w64, ecast, r4, r4b, w4, w4b, ecast2]
    rw [← hH5]
    refine come_l0 hkk l1 hk (by omega) (Hs.p1 g5) fun lv H6 ex g6 => ?_
    have r6 := rd_s (Hs.p3 g6).cel
    cases stay with
    | false =>
      simp only [Bool.false_eq_true, if_false, List.append_nil] at hend
      have w6 := wr_s (Hs.p2 g6).cel 5
      obtain ⟨la, lc, le, hlv⟩ := g6.own.arr.shape
      have g7 := fun x => (Hs.p2 g6).put (l' := [.int .i64 nx, c2, .int .i64 most, c4, c5, x])
      simp -implicitDefEqProofs -dsimp (disch := omega) only [go_sem, dec_t, dec_f, r6, w6]
      rw [hlv]
      simp -implicitDefEqProofs -dsimp (disch := omega) only [go_sem, dec_t, dec_f, ]
      rw [← hlv]
      exact hend lv _ (Hs.p1 (Hs.p2 (Hs.p2 (g7 lv)).tail).tail)
    | true =>
      simp only [if_true] at hend
      obtain ⟨l7, H7, q7, o7, s7, f7⟩ := app_one (e := 1) (eb := 8) (m := 1) (M := [.int .i64 num]) g6.own rfl rfl (by omega) (by omega)
      have g7 := g6.lst' s7 o7 f7
      have w7 := wr_s (Hs.p2 g7).cel 5
      obtain ⟨la, lc, le, hlv⟩ := g7.own.arr.shape
      have g8 := fun x => (Hs.p2 g7).put (l' := [.int .i64 nx, c2, .int .i64 most, c4, c5, x])
      simp -implicitDefEqProofs -dsimp (disch := omega) only [go_sem, dec_t, dec_f, r6, q7, w7]
      rw [hlv]
      simp -implicitDefEqProofs -dsimp (disch := omega) only [go_sem, dec_t, dec_f, ]
      rw [← hlv]
      refine hend l7 _ ?_
      rw [show ∀ F : List Int, i64s (F ++ [num]) = i64s F ++ [.int .i64 num] from fun F => by simp [i64s], List.length_append]
      exact Hs.p1 (Hs.p2 (Hs.p2 (g8 l7)).tail).tail
  · rw [if_neg (by omega), if_pos k] at hH5
    simp -implicitDefEqProofs -dsimp (disch := omega) only [go_sem, dec_t, dec_f, r3, w3, w64, ecast, r4, r4b, w4c]
    rw [← hH5]
    refine come_l0 hkk l1 hk (by omega) (Hs.p1 g5) fun lv H6 ex g6 => ?_
    have r6 := rd_s (Hs.p3 g6).cel
    cases stay with
    | false =>
      simp only [Bool.false_eq_true, if_false, List.append_nil] at hend
      have w6 := wr_s (Hs.p2 g6).cel 5
      obtain ⟨la, lc, le, hlv⟩ := g6.own.arr.shape
      have g7 := fun x => (Hs.p2 g6).put (l' := [.int .i64 nx, c2, .int .i64 most, c4, c5, x])
      simp -implicitDefEqProofs -dsimp (disch := omega) only [go_sem, dec_t, dec_f, r6, w6]
      rw [hlv]
      simp -implicitDefEqProofs -dsimp (disch := omega) only [go_sem, dec_t, dec_f, ]
      rw [← hlv]
      exact hend lv _ (Hs.p1 (Hs.p2 (Hs.p2 (g7 lv)).tail).tail)
    | true =>
      simp only [if_true] at hend
      obtain ⟨l7, H7, q7, o7, s7, f7⟩ := app_one (e := 1) (eb := 8) (m := 1) (M := [.int .i64 num]) g6.own rfl rfl (by omega) (by omega)
      have g7 := g6.lst' s7 o7 f7
      have w7 := wr_s (Hs.p2 g7).cel 5
      obtain ⟨la, lc, le, hlv⟩ := g7.own.arr.shape
      have g8 := fun x => (Hs.p2 g7).put (l' := [.int .i64 nx, c2, .int .i64 most, c4, c5, x])
      simp -implicitDefEqProofs -dsimp (disch := omega) only [go_sem, dec_t, dec_f, r6, q7, w7]
      rw [hlv]
      simp -implicitDefEqProofs -dsimp (disch := omega) only [go_sem, dec_t, dec_f, ]
      rw [← hlv]
      refine hend l7 _ ?_
      rw [show ∀ F : List Int, i64s (F ++ [num]) = i64s F ++ [.int .i64 num] from fun F => by simp [i64s], List.length_append]
      exact Hs.p1 (Hs.p2 (Hs.p2 (g8 l7)).tail).tail
  · rw [if_neg (by omega), if_neg (by omega), if_pos k] at hH5
    simp -implicitDefEqProofs -dsimp (disch := omega) only [go_sem, dec_t, dec_f, r3, w3, w64, ecast, r4, r4b, w4d]
    rw [← hH5]
    refine come_l0 hkk l1 hk (by omega) (Hs.p1 g5) fun lv H6 ex g6 => ?_
    have r6 := rd_s (Hs.p3 g6).cel
    cases stay with
    | false =>
      simp only [Bool.false_eq_true, if_false, List.append_nil] at hend
      have w6 := wr_s (Hs.p2 g6).cel 5
      obtain ⟨la, lc, le, hlv⟩ := g6.own.arr.shape
      have g7 := fun x => (Hs.p2 g6).put (l' := [.int .i64 nx, c2, .int .i64 most, c4, c5, x])
      simp -implicitDefEqProofs -dsimp (disch := omega) only [go_sem, dec_t, dec_f, r6, w6]
      rw [hlv]
      simp -implicitDefEqProofs -dsimp (disch := omega) only [go_sem, dec_t, dec_f, ]
      rw [← hlv]
      exact hend lv _ (Hs.p1 (Hs.p2 (Hs.p2 (g7 lv)).tail).tail)
    | true =>
      simp only [if_true] at hend
      obtain ⟨l7, H7, q7, o7, s7, f7⟩ := app_one (e := 1) (eb := 8) (m := 1) (M := [.int .i64 num]) g6.own rfl rfl (by omega) (by omega)
      have g7 := g6.lst' s7 o7 f7
      have w7 := wr_s (Hs.p2 g7).cel 5
      obtain ⟨la, lc, le, hlv⟩ := g7.own.arr.shape
      have g8 := fun x => (Hs.p2 g7).put (l' := [.int .i64 nx, c2, .int .i64 most, c4, c5, x])
      simp -implicitDefEqProofs -dsimp (disch := omega) only [go_sem, dec_t, dec_f, r6, q7, w7]
      rw [hlv]
      simp -implicitDefEqProofs -dsimp (disch := omega) only [go_sem, dec_t, dec_f, ]
      rw [← hlv]
      refine hend l7 _ ?_
      rw [show ∀ F : List Int, i64s (F ++ [num]) = i64s F ++ [.int .i64 num] from fun F => by simp [i64s], List.length_append]
      exact Hs.p1 (Hs.p2 (Hs.p2 (g8 l7)).tail).tail
  · rw [if_neg k1, if_neg k6, if_neg k7] at hH5
    simp -implicitDefEqProofs -dsimp (disch := omega) only [go_sem, dec_t, dec_f, r3, w3, w64, ecast, r4, r4b]
    rw [← hH5]
    refine come_l0 hkk l1 hk (by omega) (Hs.p1 g5) fun lv H6 ex g6 => ?_
    have r6 := rd_s (Hs.p3 g6).cel
    cases stay with
    | false =>
      simp only [Bool.false_eq_true, if_false, List.append_nil] at hend
      have w6 := wr_s (Hs.p2 g6).cel 5
      obtain ⟨la, lc, le, hlv⟩ := g6.own.arr.shape
      have g7 := fun x => (Hs.p2 g6).put (l' := [.int .i64 nx, c2, .int .i64 most, c4, c5, x])
      simp -implicitDefEqProofs -dsimp (disch := omega) only [go_sem, dec_t, dec_f, r6, w6]
      rw [hlv]
      simp -implicitDefEqProofs -dsimp (disch := omega) only [go_sem, dec_t, dec_f, ]
      rw [← hlv]
      exact hend lv _ (Hs.p1 (Hs.p2 (Hs.p2 (g7 lv)).tail).tail)
    | true =>
      simp only [if_true] at hend
      obtain ⟨l7, H7, q7, o7, s7, f7⟩ := app_one (e := 1) (eb := 8) (m := 1) (M := [.int .i64 num]) g6.own rfl rfl (by omega) (by omega)
      have g7 := g6.lst' s7 o7 f7
      have w7 := wr_s (Hs.p2 g7).cel 5
      obtain ⟨la, lc, le, hlv⟩ := g7.own.arr.shape
      have g8 := fun x => (Hs.p2 g7).put (l' := [.int .i64 nx, c2, .int .i64 most, c4, c5, x])
      simp -implicitDefEqProofs -dsimp (disch := omega) only [go_sem, dec_t, dec_f, r6, q7, w7]
      rw [hlv]
      simp -implicitDefEqProofs -dsimp (disch := omega) only [go_sem, dec_t, dec_f, ]
      rw [← hlv]
      refine hend l7 _ ?_
      rw [show ∀ F : List Int, i64s (F ++ [num]) = i64s F ++ [.int .i64 num] from fun F => by simp [i64s], List.length_append]
      exact Hs.p1 (Hs.p2 (Hs.p2 (g8 l7)).tail).tail
end
end Go.Ab
namespace Go.Ab
section
variable {P : Prog} {H : Heap} {R : List As} {Q : Out → Heap → Prop}
def ordOk (l : List Sg) : Prop := pgs l ≤ 64 ∧ refRun (pgs l) ⟨0, 0, false, []⟩ false l
theorem ord_file (l : List Sg) : ordOk l ↔ fileOk l := by
  unfold ordOk fileOk
  by_cases h : l = []
  · subst h; simp [refRun]
  · rw [run_iff h]; simp [h]
def od1F (b : Nat) (v : V) (i : Nat) : Fr := ⟨[(0, v), (3, .ptr (some (b, 0))), (4, .int .i64 (i : Nat))], []⟩
theorem ordR_cnt {b : Nat} {v : V} {l : List SgO} {c0 c1 c3 c4 c5 : V} (hR : ∀ H', Hs H' R → FlR H' v l) (hl : l.length ≤ 1000000) (hs : Hs H (Cel b [c0, c1, .int .i64 0, c3, c4, c5] :: R)) {Qp : Post} {s' t'}
    (h1 : ∀ H' ex, Hs H' (Cel b [c0, c1, .int .i64 (pgs (ss l) : Nat), c3, c4, c5] :: R) → Qp (.exit 0) ⟨(0, v) :: (3, .ptr (some (b, 0))) :: ex, []⟩ H') :
    loopL (Call P) [0, 3, 4] burinref17_Ordered_l1 Qp s' t' (od1F b v 0) H := by
  refine loop_cnt l.length (od1F b v) (fun i H => Hs H (Cel b [c0, c1, .int .i64 (pgs ((ss l).take i) : Nat), c3, c4, c5] :: R)) (fun i H K hi hS hx hy hz => ?_) 0 H (Nat.zero_le _) (by simpa [pgs] using hs)
  unfold od1F
  by_cases hlt : i < l.length
  · obtain ⟨vb, vo, vc, rfl, r7, rk, ok⟩ := (hR H hS.tail).at hlt
    have hp := pgs_snoc (ss l) (i := i) (by simpa using hlt)
    have hle := pgs_le ((ss l).take i)
    rw [List.length_take, List.length_map, Nat.min_eq_left hi] at hle
    rw [List.getElem_map] at hp
    have hx := hx hlt
    have r1 := rk 1 (by omega)
    generalize l[i] = q at *
    obtain ⟨s, v1, v2, v3⟩ := q
    unfold SgO.cs at r1
    dsimp only at r1 hp
    rw [show (s.cells v1 v2 v3)[1]? = some (.int .i64 s.kind) from rfl] at r1
    generalize pgs ((ss l).take i) = k at *
    have rb := rd_s hS.cel
    have wb := wr_s hS.cel 2
    have ek : (k : Int) + 1 = ((k + 1 : Nat) : Int) := by omega
    by_cases k1 : s.kind = 1
    · rw [if_pos k1] at hp
      simp -implicitDefEqProofs -dsimp (disch := omega) only [go_sem, dec_t, dec_f, burinref17_Ordered_l1, Int.toNat_natCast, r1, rb, w64, wb, ek, cadd1]
      refine hx _ ?_
      rw [hp]
      exact hS.put
    · rw [if_neg k1] at hp
      simp -implicitDefEqProofs -dsimp (disch := omega) only [go_sem, dec_t, dec_f, burinref17_Ordered_l1, Int.toNat_natCast, r1, w64, cadd1]
      refine hx _ ?_
      rw [hp]
      exact hS
  · have : i = l.length := by omega
    subst this
    rw [List.take_of_length_le (by simp)] at hS
    obtain ⟨a, c, e, rfl⟩ := (hR H hS.tail).arr.shape
    simp -implicitDefEqProofs -dsimp (disch := omega) only [go_sem, dec_t, dec_f, burinref17_Ordered_l1]
    rw [hy]
    exact h1 H _ hS
def od0F (b : Nat) (v : V) (i : Nat) : Fr := ⟨[(0, v), (3, .ptr (some (b, 0))), (5, .int .i64 (i : Nat))], []⟩
set_option maxHeartbeats 1000000 in
theorem ordR_run (hp : HasRf17 P) (hr : HasRf16 P) {b most : Nat} {v : V} {l : List SgO} {o : OSt} {hv : V} (ok : o.Ok most) (on : o.next = 0) (hm : most ≤ 1000000) (hR : ∀ H', Hs H' R → FlR H' v l) (hl : l.length ≤ 1000000) (hs : Hs H (Lst hv 1 o.held.length (i64s o.held) :: Cel b (refC most o false hv) :: R)) {Qp : Post} {s' t'}
    (h1 : ∀ oi d hv H' ex, (refRun most o false (ss l) ↔ d = true) → Hs H' (Lst hv 1 oi.held.length (i64s oi.held) :: Cel b (refC most oi d hv) :: R) → Qp (.exit 2) ⟨(0, v) :: (3, .ptr (some (b, 0))) :: ex, []⟩ H')
    (h2 : ¬ refRun most o false (ss l) → ∀ H' ex, Hs H' R → Qp .ret ⟨(2, .bool false) :: ex, []⟩ H') :
    loopL (Call P) [0, 3, 5] burinref17_Ordered_l0 Qp s' t' (od0F b v 0) H := by
  refine loop_cnt l.length (od0F b v) (fun i H => ∃ (oi : OSt) (d : Bool) (hv : V), oi.Ok most ∧ oi.next = i ∧ (refRun most o false (ss l) ↔ refRun most oi d ((ss l).drop i)) ∧ Hs H (Lst hv 1 oi.held.length (i64s oi.held) :: Cel b (refC most oi d hv) :: R)) (fun i H K hi hS hx hy hz => ?_) 0 H (Nat.zero_le _) ⟨o, false, hv, ok, on, Iff.rfl, hs⟩
  obtain ⟨oi, d, hv, oki, oni, hrun, hS⟩ := hS
  unfold od0F
  have rb := rd_s (Hs.p1 hS).cel
  by_cases hlt : i < l.length
  rotate_left
  · have : i = l.length := by omega
    subst this
    rw [List.drop_of_length_le (by simp)] at hrun
    obtain ⟨a, c, e, rfl⟩ := (hR H hS.tail.tail).arr.shape
    simp -implicitDefEqProofs -dsimp (disch := omega) only [go_sem, dec_t, dec_f, burinref17_Ordered_l0]
    rw [hy]
    exact h1 oi d hv H _ hrun hS
  obtain ⟨vb, vo, vc, rfl, r7, rk, sok⟩ := (hR H hS.tail.tail).at hlt
  have hd : (ss l).drop i = l[i].s :: (ss l).drop (i + 1) := by rw [List.drop_eq_getElem_cons (by simpa using hlt), List.getElem_map]
  rw [hd, refRun] at hrun
  have hx := hx hlt
  have sokR : ∀ H', Hs H' R → SgOk H' l[i] := fun H' h => (hR H' h).ok _ (List.getElem_mem hlt)
  have r7R : ∀ H', Hs H' R → rd H' (some 7) vb (vo + i * 7) = some (.agg l[i].cs) := fun H' h => by
    obtain ⟨b', o', c', e, r, _⟩ := (hR H' h).at hlt
    cases e
    exact r
  generalize (ss l).drop (i + 1) = rest at *
  generalize l[i] = q at *
  obtain ⟨s, v1, v2, v3⟩ := q
  unfold SgO.cs at r7 r7R
  dsimp only at r7 r7R hrun
  unfold SgOk at sok sokR
  dsimp only at sok sokR
  unfold refC at rb
  cases d with
  | true =>
    simp -implicitDefEqProofs -dsimp (disch := omega) only [go_sem, dec_t, dec_f, burinref17_Ordered_l0, rb]
    rw [hz]
    exact h2 (fun k => by have := (hrun.1 k).1; cases this) _ _ hS.tail.tail
  | false =>
    simp -implicitDefEqProofs -dsimp (disch := omega) only [go_sem, dec_t, dec_f, burinref17_Ordered_l0, rb, Int.toNat_natCast, r7]
    refine mayR_ct hr sok fun H2 s2 => ?_
    have g2 := hS.keep s2
    by_cases hM : May s
    rotate_left
    · rw [mayB_f hM]
      simp -implicitDefEqProofs -dsimp (disch := omega) only [go_sem, dec_t, dec_f, ]
      rw [hz]
      exact h2 (fun k => hM (hrun.1 k).2.1) _ _ g2.tail.tail
    rw [mayB_t hM]
    have r7' := r7R H2 g2.tail.tail
    simp -implicitDefEqProofs -dsimp (disch := omega) only [go_sem, dec_t, dec_f, Int.toNat_natCast, r7']
    refine come_ct hp oki hm (by omega) sokR hM.keep g2 (fun he hv' H' h => ?_) (fun he H' h => ?_)
    · simp -implicitDefEqProofs -dsimp (disch := omega) only [go_sem, dec_t, dec_f, w64, cadd1]
      refine hx _ ⟨comeO oi s, decide (s.kind = 7), hv', oki.come he, by simp [comeO, oni], ⟨fun q => (hrun.1 q).2.2.2, fun q => hrun.2 ⟨rfl, hM, he, q⟩⟩, ?_⟩
      have e : (if s.kind = 7 then true else false) = decide (s.kind = 7) := by by_cases k : s.kind = 7 <;> simp [k]
      rw [e] at h
      exact h
    · simp -implicitDefEqProofs -dsimp (disch := omega) only [go_sem, dec_t, dec_f, dec_t he]
      rw [hz]
      exact h2 (fun k => he (hrun.1 k).2.2.1) _ _ h
open Classical in
theorem ordered_ct (hp : HasRf17 P) (hr : HasRf16 P) {v : V} {l : List SgO} (hR : ∀ H', Hs H' R → FlR H' v l) (hl : l.length ≤ 1000000) (hs : Hs H R) (hQ : ∀ H', Hs H' R → Q (.ret (.bool (decide (fileOk (ss l))))) H') : Call P 227 [v] H Q := by
  refine call_of hp.h_burinref17_Ordered rfl ?_
  simp only [← ord_file] at hQ
  have g1 := hs.alloc (l := [.int .i64 0, .int .i64 0, .int .i64 0, .bool false, .bool false, .sl none 0 0 0])
  simp -implicitDefEqProofs -dsimp (disch := omega) only [go_sem, dec_t, dec_f, ]
  generalize H.new _ = H1 at *
  generalize H.next = b at *
  refine ordR_cnt hR hl g1 fun H2 ex g2 => ?_
  have r2 := rd_s g2.cel
  have hpl := pgs_le (ss l)
  rw [List.length_map] at hpl
  by_cases k1 : pgs (ss l) ≤ 64
  rotate_left
  · rw [decide_eq_false (show ¬ ordOk (ss l) from fun k => k1 k.1)] at hQ
    simp -implicitDefEqProofs -dsimp (disch := omega) only [go_sem, dec_t, dec_f, r2]
    exact hQ _ g2.tail
  simp -implicitDefEqProofs -dsimp (disch := omega) only [go_sem, dec_t, dec_f, r2]
  refine ordR_run (o := ⟨0, 0, false, []⟩) hp hr (OSt.ok0 (pgs (ss l))) rfl (by omega) hR hl ((g2.lst (Same.refl _ _) (Or.inl ⟨rfl, rfl, rfl⟩) fun b h => h.elim)) (fun oi d hv H3 ex hd g3 => ?_) (fun hno H3 ex g3 => ?_)
  · have r3 := rd_s (Hs.p1 g3).cel
    unfold refC at r3
    have hQ := hQ _ g3.tail.tail
    rw [show decide (ordOk (ss l)) = d by
      cases d with
      | true => exact decide_eq_true ⟨k1, hd.2 rfl⟩
      | false => exact decide_eq_false fun k => by have := hd.1 k.2; cases this] at hQ
    simp -implicitDefEqProofs -dsimp (disch := omega) only [go_sem, dec_t, dec_f, r3]
    exact hQ
  · rw [decide_eq_false (show ¬ ordOk (ss l) from fun k => hno k.2)] at hQ
    simp -implicitDefEqProofs -dsimp (disch := omega) only [go_sem, dec_t, dec_f, ]
    exact hQ _ g3
end
end Go.Ab
namespace Go.Ab
section
variable {P : Prog} {H : Heap} {R : List As} {Q : Out → Heap → Prop}
def rw2F (v : V) (rnd : Bool) (l : List Sg) (i : Nat) : Fr := ⟨[(0, v), (1, .bool rnd), (6, .int .i64 (pgs (l.take i) : Nat)), (7, .int .i64 (i : Nat))], []⟩
theorem wrR_cnt {v : V} {l : List SgO} {rnd : Bool} (hv : FlR H v l) (hl : l.length ≤ 1000000) {Qp : Post} {s' t'}
    (h1 : ∀ ex, Qp (.exit 0) ⟨(0, v) :: (1, .bool rnd) :: (6, .int .i64 (pgs (ss l) : Nat)) :: ex, []⟩ H) :
    loopL (Call P) [0, 1, 6, 7] burinref17_Write_l2 Qp s' t' (rw2F v rnd (ss l) 0) H := by
  refine loop_cnt l.length (rw2F v rnd (ss l)) (fun i H' => H' = H) (fun i H' K hi hS hx hy hz => ?_) 0 H (Nat.zero_le _) rfl
  subst hS
  unfold rw2F at hx ⊢
  by_cases hlt : i < l.length
  · obtain ⟨vb, vo, vc, rfl, r7, rk, ok⟩ := hv.at hlt
    have hp := pgs_snoc (ss l) (i := i) (by simpa using hlt)
    have hle := pgs_le ((ss l).take i)
    rw [List.length_take, List.length_map, Nat.min_eq_left hi] at hle
    rw [List.getElem_map] at hp
    have hx := hx hlt H' rfl
    rw [hp] at hx
    have r1 := rk 1 (by omega)
    generalize l[i] = q at *
    obtain ⟨s, v1, v2, v3⟩ := q
    unfold SgO.cs at r1
    dsimp only at r1 hp hx
    rw [show (s.cells v1 v2 v3)[1]? = some (.int .i64 s.kind) from rfl] at r1
    generalize pgs ((ss l).take i) = k at *
    have ek : (k : Int) + 1 = ((k + 1 : Nat) : Int) := by omega
    by_cases k1 : s.kind = 1
    · rw [if_pos k1] at hx
      simp -implicitDefEqProofs -dsimp (disch := omega) only [go_sem, dec_t, dec_f, burinref17_Write_l2, Int.toNat_natCast, r1, w64, ek, cadd1]
      exact hx
    · rw [if_neg k1] at hx
      simp -implicitDefEqProofs -dsimp (disch := omega) only [go_sem, dec_t, dec_f, burinref17_Write_l2, Int.toNat_natCast, r1, w64, cadd1]
      exact hx
  · have : i = l.length := by omega
    subst this
    rw [List.take_of_length_le (by simp)]
    obtain ⟨a, c, e, rfl⟩ := hv.arr.shape
    simp -implicitDefEqProofs -dsimp (disch := omega) only [go_sem, dec_t, dec_f, burinref17_Write_l2]
    rw [hy]
    exact h1 _
structure WyX where
  i : Nat
  f : V
def WyX.fr (t : Nat) (v : V) (rnd : Bool) (x : WyX) : Fr := ⟨[(0, v), (1, .bool rnd), (8, x.f), (t, .int .i64 (x.i : Nat))], []⟩
set_option maxHeartbeats 1000000 in
theorem wrR_put (hr : HasRf16 P) (hrb : HasRefBits P) {v : V} {l : List SgO} {rnd : Bool} {A : List Nat} {f0 : V} (hM : ∀ s ∈ ss l, May s) (hA : A.length ≤ 1000) (hR : ∀ H', Hs H' R → FlR H' v l) (hl : l.length ≤ 100000) (hs : Hs H (Lst f0 1 A.length (u8s A) :: R)) {Qp : Post} {s' t'}
    (h1 : ∀ fv H' ex, Hs H' (Lst fv 1 (A ++ (ss l).flatMap (partB rnd)).length (u8s (A ++ (ss l).flatMap (partB rnd))) :: R) → Qp (.exit 2) ⟨(0, v) :: (1, .bool rnd) :: (8, fv) :: ex, []⟩ H') :
    loopL (Call P) [0, 1, 8, 9] burinref17_Write_l1 Qp s' t' (WyX.fr 9 v rnd ⟨0, f0⟩) H := by
  refine loop_dec (σ := WyX) (fun x => l.length - x.i) (WyX.fr 9 v rnd) (fun x H => x.i ≤ l.length ∧ Hs H (Lst x.f 1 (A ++ ((ss l).take x.i).flatMap (partB rnd)).length (u8s (A ++ ((ss l).take x.i).flatMap (partB rnd))) :: R))
    (fun x H K ok hn hx hy => ?_) ⟨0, f0⟩ H ⟨Nat.zero_le _, by simpa using hs⟩
  obtain ⟨i, fv⟩ := x
  obtain ⟨hi, hS⟩ := ok
  dsimp only at hi hS hn
  unfold WyX.fr
  by_cases hlt : i < l.length
  rotate_left
  · have : i = l.length := by omega
    subst this
    rw [List.take_of_length_le (by simp)] at hS
    obtain ⟨a, c, e, rfl⟩ := (hR H hS.tail).arr.shape
    simp -implicitDefEqProofs -dsimp (disch := omega) only [go_sem, dec_t, dec_f, burinref17_Write_l1]
    rw [hx]
    exact h1 fv H _ hS
  obtain ⟨vb, vo, vc, rfl, r7, rk, sok⟩ := (hR H hS.tail).at hlt
  have sokR : ∀ H', Hs H' R → SgOk H' l[i] := fun H' h => (hR H' h).ok _ (List.getElem_mem hlt)
  have rkR : ∀ H', Hs H' R → ∀ k, k < 7 → rd H' none vb (vo + i * 7 + k) = l[i].cs[k]? := fun H' h => by
    obtain ⟨b', o', c', e, _, r, _⟩ := (hR H' h).at hlt
    cases e
    exact r
  have f1 := flat_snoc (partB rnd) (ss l) (i := i) (by simpa using hlt)
  have hms : May l[i].s := hM _ (List.mem_map.2 ⟨l[i], List.getElem_mem hlt, rfl⟩)
  have pl := part_len rnd (l := (ss l).take i) fun s hs => hM s (List.mem_of_mem_take hs)
  rw [List.length_take, List.length_map, Nat.min_eq_left hi] at pl
  rw [List.getElem_map] at f1
  generalize l[i] = q at *
  obtain ⟨s, v1, v2, v3⟩ := q
  unfold SgO.cs at r7 rkR
  unfold SgOk at sok sokR
  dsimp only at r7 sok sokR f1 hms rkR
  generalize ((ss l).take i).flatMap (partB rnd) = Fi at *
  have hh := hdr_len hms
  have hdl := hms.most
  simp -implicitDefEqProofs -dsimp (disch := omega) only [go_sem, dec_t, dec_f, burinref17_Write_l1, Int.toNat_natCast, r7]
  refine encR_ct hr hrb (fun H' h => sokR H' h.tail) hS (fun _ hv H2 g2 => ?_) (fun k => absurd hms k)
  obtain ⟨f3, H3, k3, g3⟩ := app_on (Hs.p1 g2) g2.own.arr (by rw [List.length_append]; omega)
  have g4 := g3.tail2
  simp -implicitDefEqProofs -dsimp (disch := omega) only [go_sem, dec_t, dec_f, k3]
  cases rnd with
  | true =>
    simp -implicitDefEqProofs -dsimp (disch := omega) only [go_sem, dec_t, dec_f, w64, cadd1]
    refine hn ⟨i + 1, f3⟩ H3 (by dsimp only; omega) ⟨by dsimp only; omega, ?_⟩
    dsimp only
    rw [f1]
    simp only [partB, if_true, List.append_nil, ← List.append_assoc]
    exact g4
  | false =>
    have sd := (sokR H3 g4.tail).data
    have r6 := rkR H3 g4.tail 6 (by omega)
    rw [show (s.cells v1 v2 v3)[6]? = some v3 from rfl] at r6
    obtain ⟨f4, H4, k4, g5⟩ := app_on g4 sd (by simp only [List.length_append]; omega)
    simp -implicitDefEqProofs -dsimp (disch := omega) only [go_sem, dec_t, dec_f, Int.toNat_natCast, r6, k4, w64, cadd1]
    refine hn ⟨i + 1, f4⟩ H4 (by dsimp only; omega) ⟨by dsimp only; omega, ?_⟩
    dsimp only
    rw [f1]
    simp only [partB, Bool.false_eq_true, if_false, ← List.append_assoc]
    exact g5
set_option maxHeartbeats 1000000 in
theorem wrR_tail {v : V} {l : List SgO} {rnd : Bool} {A : List Nat} {f0 : V} (hM : ∀ s ∈ ss l, May s) (hA : A.length ≤ 10000000000000) (hR : ∀ H', Hs H' R → FlR H' v l) (hl : l.length ≤ 100000) (hs : Hs H (Lst f0 1 A.length (u8s A) :: R)) {Qp : Post} {s' t'}
    (h1 : ∀ fv H' ex, Hs H' (Lst fv 1 (A ++ tailB rnd (ss l)).length (u8s (A ++ tailB rnd (ss l))) :: R) → Qp (.exit 4) ⟨(0, v) :: (1, .bool rnd) :: (8, fv) :: ex, []⟩ H') :
    loopL (Call P) [0, 1, 8, 12] burinref17_Write_l0 Qp s' t' (WyX.fr 12 v rnd ⟨0, f0⟩) H := by
  refine loop_dec (σ := WyX) (fun x => l.length - x.i) (WyX.fr 12 v rnd) (fun x H => x.i ≤ l.length ∧ (rnd = false → x.i = 0) ∧ Hs H (Lst x.f 1 (A ++ tailB rnd ((ss l).take x.i)).length (u8s (A ++ tailB rnd ((ss l).take x.i))) :: R))
    (fun x H K ok hn hx hy => ?_) ⟨0, f0⟩ H ⟨Nat.zero_le _, fun _ => rfl, ?_⟩
  rotate_left
  · have e : tailB rnd ((ss l).take 0) = [] := by cases rnd <;> rfl
    dsimp only
    rw [e, List.append_nil]
    exact hs
  obtain ⟨i, fv⟩ := x
  obtain ⟨hi, h0, hS⟩ := ok
  dsimp only at hi hS hn h0
  unfold WyX.fr
  cases rnd with
  | false =>
    have h0 := h0 rfl
    subst h0
    have e : ∀ m, tailB false m = [] := fun _ => rfl
    rw [e] at hS h1
    obtain ⟨a, c, e', rfl⟩ := (hR H hS.tail).arr.shape
    rcases Nat.eq_zero_or_pos l.length with z | z
    all_goals
      simp -implicitDefEqProofs -dsimp (disch := omega) only [go_sem, dec_t, dec_f, burinref17_Write_l0]
      rw [hx]
      exact h1 fv H _ hS
  | true =>
  by_cases hlt : i < l.length
  rotate_left
  · have : i = l.length := by omega
    subst this
    rw [List.take_of_length_le (by simp)] at hS
    obtain ⟨a, c, e, rfl⟩ := (hR H hS.tail).arr.shape
    simp -implicitDefEqProofs -dsimp (disch := omega) only [go_sem, dec_t, dec_f, burinref17_Write_l0]
    rw [hx]
    exact h1 fv H _ hS
  obtain ⟨vb, vo, vc, rfl, r7, rk, sok⟩ := (hR H hS.tail).at hlt
  have hlt' : i < (ss l).length := by simpa using hlt
  have f1 : tailB true ((ss l).take (i + 1)) = tailB true ((ss l).take i) ++ (ss l)[i].data := by
    simp only [tailB, if_true]; exact flat_snoc Sg.data (ss l) (i := i) (by simpa using hlt)
  have hms : May l[i].s := hM _ (List.mem_map.2 ⟨l[i], List.getElem_mem hlt, rfl⟩)
  have pl := part_len true (l := (ss l).take i) fun s hs => hM s (List.mem_of_mem_take hs)
  rw [List.length_take, List.length_map, Nat.min_eq_left hi] at pl
  rw [List.getElem_map] at f1
  have r6 := rk 6 (by omega)
  generalize l[i] = q at *
  obtain ⟨s, v1, v2, v3⟩ := q
  unfold SgO.cs at r6
  unfold SgOk at sok
  dsimp only at r6 sok f1 hms
  rw [show (s.cells v1 v2 v3)[6]? = some v3 from rfl] at r6
  generalize tailB true ((ss l).take i) = Di at *
  have hdl := hms.most
  obtain ⟨f4, H4, k4, g5⟩ := app_on hS sok.data (by simp only [List.length_append]; omega)
  simp -implicitDefEqProofs -dsimp (disch := omega) only [go_sem, dec_t, dec_f, burinref17_Write_l0, Int.toNat_natCast, r6, k4, w64, cadd1]
  refine hn ⟨i + 1, f4⟩ H4 (by dsimp only; omega) ⟨by dsimp only; omega, (fun h => by cases h), ?_⟩
  dsimp only
  rw [f1, ← List.append_assoc]
  exact g5
open Classical in
set_option maxHeartbeats 1000000 in
theorem writeR_ct (hp : HasRf17 P) (hr : HasRf16 P) (hrb : HasRefBits P) {v : V} {l : List SgO} {rnd : Bool} (hR : ∀ H', Hs H' R → FlR H' v l) (hl : l.length ≤ 100000) (hs : Hs H R)
    (h1 : fileOk (ss l) → ∀ v' H', Hs H' (Lst v' 1 (fileB rnd (ss l)).length (u8s (fileB rnd (ss l))) :: R) → Q (.ret (.tup [v', .int .i64 0])) H') (h2 : ¬ fileOk (ss l) → ∀ H', Hs H' R → Q (.ret (.tup [.sl none 0 0 0, .int .i64 165])) H') : Call P 228 [v, .bool rnd] H Q := by
  refine call_of hp.h_burinref17_Write rfl ?_
  simp -implicitDefEqProofs -dsimp (disch := omega) only [go_sem, dec_t, dec_f, ]
  refine ordered_ct hp hr hR (by omega) hs fun H1 g1 => ?_
  by_cases ok : fileOk (ss l)
  rotate_left
  · rw [decide_eq_false ok]
    simp -implicitDefEqProofs -dsimp (disch := omega) only [go_sem, dec_t, dec_f, ]
    exact h2 ok _ g1
  rw [decide_eq_true ok]
  have h1 := h1 ok
  clear h2
  have hM : ∀ s ∈ ss l, May s := by
    have key : ∀ (m : Nat) (l : List Sg) (o : OSt), fileRun m o l → ∀ s ∈ l, May s := by
      intro m l
      induction l with
      | nil => exact fun _ _ s h => nomatch h
      | cons t l ih =>
        intro o h s hs
        rcases List.mem_cons.1 hs with rfl | hs
        · exact h.1
        · exact ih _ h.2.2.2 s hs
    exact key _ _ _ ok.2.2
  have k1 := ok.1
  simp -implicitDefEqProofs -dsimp (disch := omega) only [go_sem, dec_t, dec_f, ]
  refine wrR_cnt (hR H1 g1) (by omega) fun ex => ?_
  have eu : u8s [66, 85, 82, 1, 0] = [.int .u8 66, .int .u8 85, .int .u8 82, .int .u8 1, .int .u8 0] := rfl
  have g2 := (g1.alloc (l := u8s [66, 85, 82, 1, 0])).toLst (n := 5) (e := 1) rfl
  have pl := part_len rnd hM
  rw [List.length_map] at pl
  have gr : groups (pgs (ss l)) = [pgs (ss l)] := by rw [groups, if_pos (by omega)]
  have fin : ∀ (A : List Nat) (fv : V) (H5 : Heap), A = [66, 85, 82, 1, if rnd then 1 else 0] → Hs H5 (Lst fv 1 A.length (u8s A) :: R) → ∀ Q' : Out → Heap → Prop,
      (∀ v2 v3 H2 H3, app H2 1 1 fv v2 = some (v3, H3) → Hs H3 (Lst v3 1 ([66, 85, 82, 1, if rnd then 1 else 0, pgs (ss l)] : List Nat).length (u8s [66, 85, 82, 1, if rnd then 1 else 0, pgs (ss l)]) :: R) → Q' (.ret v2) H2) → Call P 18 [.int .u64 (pgs (ss l) : Nat)] H5 Q' := fun A fv H5 hA h Q' hQ' => by
    subst hA
    refine groups_ct hrb (by omega) fun v2 H2 b2 s2 f2 => ?_
    rw [gr] at b2
    have h2 := h.lst s2 b2 f2
    obtain ⟨v3, H3, k3, g3⟩ := app_on (Hs.p1 h2) h2.own.arr (by simp)
    exact hQ' v2 v3 H2 H3 k3 g3.tail2
  have tail : ∀ (f : V) (H7 : Heap), Hs H7 (Lst f 1 ([66, 85, 82, 1, if rnd then 1 else 0, pgs (ss l)] : List Nat).length (u8s [66, 85, 82, 1, if rnd then 1 else 0, pgs (ss l)]) :: R) → ∀ {Qp : Post} {s' t'},
      (∀ fv H' ex, Hs H' (Lst fv 1 ([66, 85, 82, 1, if rnd then 1 else 0, pgs (ss l)] ++ (ss l).flatMap (partB rnd)).length (u8s ([66, 85, 82, 1, if rnd then 1 else 0, pgs (ss l)] ++ (ss l).flatMap (partB rnd))) :: R) → Qp (.exit 2) ⟨(0, v) :: (1, .bool rnd) :: (8, fv) :: ex, []⟩ H') →
      loopL (Call P) [0, 1, 8, 9] burinref17_Write_l1 Qp s' t' (WyX.fr 9 v rnd ⟨0, f⟩) H7 := fun f H7 g Qp s' t' k => wrR_put hr hrb hM (by simp) hR hl g k
  have done : ∀ (f : V) (H8 : Heap), Hs H8 (Lst f 1 ([66, 85, 82, 1, if rnd then 1 else 0, pgs (ss l)] ++ (ss l).flatMap (partB rnd)).length (u8s ([66, 85, 82, 1, if rnd then 1 else 0, pgs (ss l)] ++ (ss l).flatMap (partB rnd))) :: R) → ∀ {Qp : Post} {s' t'},
      (∀ fv H' ex, Q (.ret (.tup [fv, .int .i64 0])) H' → Qp (.exit 4) ⟨(0, v) :: (1, .bool rnd) :: (8, fv) :: ex, []⟩ H') → loopL (Call P) [0, 1, 8, 12] burinref17_Write_l0 Qp s' t' (WyX.fr 12 v rnd ⟨0, f⟩) H8 := fun f H8 g Qp s' t' k =>
    wrR_tail hM (by simp only [List.length_append, List.length_cons, List.length_nil]; omega) hR hl g fun fv H' ex g' => k fv H' ex (h1 fv H' g')
  clear h1
  rw [eu] at g2
  cases rnd with
  | false =>
    simp -implicitDefEqProofs -dsimp (disch := omega) only [go_sem, dec_t, dec_f, wu64]
    refine fin [66, 85, 82, 1, 0] _ _ rfl g2 _ fun v2 v3 H2 H3 k3 g3 => ?_
    simp -implicitDefEqProofs -dsimp (disch := omega) only [go_sem, dec_t, dec_f, k3]
    refine tail v3 H3 g3 fun f4 H4 ex g4 => ?_
    simp -implicitDefEqProofs -dsimp (disch := omega) only [go_sem, dec_t, dec_f, ]
    refine done f4 H4 g4 fun f5 H5 ex hq => ?_
    simp -implicitDefEqProofs -dsimp (disch := omega) only [go_sem, dec_t, dec_f, ]
    exact hq
  | true =>
    have w2 := wr_s (g1.alloc (l := [.int .u8 66, .int .u8 85, .int .u8 82, .int .u8 1, .int .u8 0])).cel 4
    have g3 := ((g1.alloc (l := [.int .u8 66, .int .u8 85, .int .u8 82, .int .u8 1, .int .u8 0])).put (l' := u8s [66, 85, 82, 1, 1])).toLst (n := 5) (e := 1) rfl
    rw [show u8s [66, 85, 82, 1, 1] = [.int .u8 66, .int .u8 85, .int .u8 82, .int .u8 1, .int .u8 1] from rfl] at g3
    simp -implicitDefEqProofs -dsimp (disch := omega) only [go_sem, dec_t, dec_f, wu64, w2]
    refine fin [66, 85, 82, 1, 1] _ _ rfl g3 _ fun v2 v3 H2 H3 k3 g3 => ?_
    simp -implicitDefEqProofs -dsimp (disch := omega) only [go_sem, dec_t, dec_f, k3]
    refine tail v3 H3 g3 fun f4 H4 ex g4 => ?_
    simp -implicitDefEqProofs -dsimp (disch := omega) only [go_sem, dec_t, dec_f, ]
    refine done f4 H4 g4 fun f5 H5 ex hq => ?_
    simp -implicitDefEqProofs -dsimp (disch := omega) only [go_sem, dec_t, dec_f, ]
    exact hq
end
end Go.Ab
namespace Go.Ab
section
variable {P : Prog} {H : Heap} {R : List As} {Q : Out → Heap → Prop}
theorem eqSegs_ct (hg : P 232 = some burinref0_EqSegments) (hp : HasSeg P) (he : P 26 = some burinref0_Eq) {x y : V} {l m : List SgO} (hx : FlR H x l) (hy : FlR H y m) (hlm : ss l = ss m) (hl : l.length ≤ 1000000) (hQ : ∀ H', Same (fun _ => False) H H' → Q (.ret (.bool true)) H') : Call P 232 [x, y] H Q := by
  refine call_of hg rfl ?_
  have hlen : l.length = m.length := by simpa using congrArg List.length hlm
  obtain ⟨a1, c1, e1, hv1⟩ := hx.arr.shape
  obtain ⟨a2, c2, e2, hv2⟩ := hy.arr.shape
  rw [hv1, hv2]
  simp -implicitDefEqProofs -dsimp (disch := omega) only [go_sem, dec_t, dec_f, ]
  rw [← hv1, ← hv2]
  refine loop_cnt l.length (eqF' x y) (fun i H' => Same (fun _ => False) H H') (fun i H' K hi hS hn hx1 hx2 => ?_) 0 H (Nat.zero_le _) (Same.refl _ _)
  unfold eqF' at hn ⊢
  by_cases hlt : i < l.length
  · obtain ⟨b3, o3, c3, hv3, r3, _, s3⟩ := (hx.same hS).at hlt
    obtain ⟨b4, o4, c4, hv4, r4, _, s4⟩ := (hy.same hS).at (i := i) (by omega)
    have hsi : l[i].s = m[i].s := by
      have h1 : (ss l)[i]? = (ss m)[i]? := by rw [hlm]
      rw [List.getElem?_map, List.getElem?_map, List.getElem?_eq_getElem hlt, List.getElem?_eq_getElem (by omega : i < m.length)] at h1
      simpa using h1
    have hn := hn hlt
    rw [hv3, hv4] at hn ⊢
    generalize l[i] = p at *
    generalize m[i] = q at *
    obtain ⟨s, p1, p2, p3⟩ := p
    obtain ⟨s', q1, q2, q3⟩ := q
    dsimp only at hsi
    subst hsi
    unfold SgO.cs at r3 r4
    unfold SgOk at s3 s4
    dsimp only at r3 r4 s3 s4
    simp -implicitDefEqProofs -dsimp (disch := omega) only [go_sem, dec_t, dec_f, burinref0_EqSegments_l0, Int.toNat_natCast, r3, r4]
    refine eqSeg_ct (s := s) (t := s) hp he s3 s4 fun H9 s9 => ?_
    rw [dec_t ⟨rfl, rfl, rfl, rfl, rfl, rfl, rfl⟩]
    simp -implicitDefEqProofs -dsimp (disch := omega) only [go_sem, dec_t, dec_f, w64, cadd1]
    exact hn H9 (hS.trans s9 fun _ _ h => h)
  · have : i = l.length := by omega
    subst this
    rw [hv1]
    simp -implicitDefEqProofs -dsimp (disch := omega) only [go_sem, dec_t, dec_f, burinref0_EqSegments_l0]
    rw [hx1]
    simp -implicitDefEqProofs -dsimp (disch := omega) only [go_sem, dec_t, dec_f, ]
    exact hQ _ hS
abbrev madeTD : TD := .agg [.sl 24 (.sl 104 segTD)]
structure FlO where
  v : V
  l : List SgO
structure FlOk (H : Heap) (o : FlO) : Prop where
  fl : FlR H o.v o.l
  len : o.l.length ≤ 140737488351232
theorem is_made {H : Heap} {cs : List V} {x : TD.Ty madeTD} (h : Is H madeTD cs x) : ∃ (v : V) (L : List FlO), cs = [v] ∧ Arr H v 1 L.length (L.map FlO.v) ∧ ∀ o ∈ L, FlOk H o := by
  obtain ⟨a, r, e, ⟨v, M, h1, h2, h3, h4⟩, h5⟩ := h
  have key : ∀ (xs : List (TD.Ty (.sl 104 segTD))) (M : List V), Split (Is H (.sl 104 segTD)) M xs → ∃ L : List FlO, M = L.map FlO.v ∧ L.length = List.length xs ∧ ∀ o ∈ L, FlOk H o := by
    intro xs
    induction xs with
    | nil => exact fun M h => ⟨[], h, rfl, fun _ h => nomatch h⟩
    | cons x xs ih =>
      rintro M ⟨a, r, e, k1, k2⟩
      obtain ⟨w, l, q1, q2, q3, q4⟩ := is_segs k1
      obtain ⟨L, k5, k6, k7⟩ := ih r k2
      refine ⟨⟨w, l⟩ :: L, by rw [e, q1, k5]; rfl, by rw [List.length_cons, k6]; rfl, fun q hq => ?_⟩
      rcases List.mem_cons.1 hq with rfl | hq
      · exact ⟨⟨q2, q3⟩, by dsimp only; omega⟩
      · exact k7 q hq
  obtain ⟨L, k1, k2, k3⟩ := key _ M h3
  refine ⟨v, L, by rw [e, h1, show r = [] from h5]; rfl, ?_, k3⟩
  rw [← k1, k2]
  exact h2
theorem fileB_len {rnd : Bool} {l : List Sg} (h : fileOk l) (hl : l.length ≤ 100000) : (fileB rnd l).length ≤ 100000000000000 := by
  have key : ∀ (m : Nat) (l : List Sg) (o : OSt), fileRun m o l → ∀ s ∈ l, May s := by
    intro m l
    induction l with
    | nil => exact fun _ _ s h => nomatch h
    | cons t l ih =>
      intro o h s hs
      rcases List.mem_cons.1 hs with rfl | hs
      · exact h.1
      · exact ih _ h.2.2.2 s hs
  have := part_len rnd (key _ _ _ h.2.2)
  unfold fileB
  simp only [List.length_append, List.length_cons, List.length_nil]
  omega
end
end Go.Ab
namespace Go.Ab
theorem fl_at {H : Heap} {v : V} {L : List FlO} (h : Arr H v 1 L.length (L.map FlO.v)) {i : Nat} (hi : i < L.length) : ∃ b o c, v = .sl (some (b, o)) L.length c 1 ∧ rd H none b (o + i) = some L[i].v := by
  obtain ⟨b, o, c, hv, _, h1, _⟩ := h.at hi
  have := h1 0 (by omega)
  refine ⟨b, o, c, hv, ?_⟩
  simpa [hi] using this
def fwF (b i : Nat) : Fr := ⟨[(1, .ptr (some (b, 0))), (3, .int .i64 (i : Nat))], []⟩
def fw1F (b i : Nat) (w : V) (k : Nat) : Fr := ⟨[(1, .ptr (some (b, 0))), (3, .int .i64 (i : Nat)), (4, w), (5, .int .i64 (k : Nat))], []⟩
set_option maxHeartbeats 1000000 in
theorem fw_inner {P : Prog} (hp : HasFw P) (hg : HasSeg P) (hb : HasBits P) (hr7 : HasRf17 P) (hr : HasRf16 P) (hrb : HasRefBits P) (he : P 26 = some burinref0_Eq) {H0 H : Heap} {v : V} {L : List FlO} (hv : Arr H0 v 1 L.length (L.map FlO.v)) (hL : ∀ o ∈ L, FlOk H0 o) {b i : Nat} (hi : i < L.length)
    {w : V} {l' : List SgO} (hss : ss l' = ss L[i].l) (hok : ∀ o ∈ l', o.s.Ok) (lg : Lgt L[i].l) (hs : Hs H (Lst w 7 l'.length (sgCells l') :: (l'.flatMap prt ++ [Cel b [v], Bas H0]))) {Qp : Post} {s' t'}
    (h1 : ∀ H' ex, Hs H' (Lst w 7 l'.length (sgCells l') :: (l'.flatMap prt ++ [Cel b [v], Bas H0])) → Qp (.exit 2) ⟨(1, .ptr (some (b, 0))) :: (3, .int .i64 (i : Nat)) :: (4, w) :: ex, []⟩ H') :
    loopL (Call P) [1, 3, 4, 5] burinlaw17_FileWrites_l1 Qp s' t' (fw1F b i w 0) H := by
  have hll : l'.length = L[i].l.length := by simpa using congrArg List.length hss
  have hlen := lg.len
  refine loop_cnt 2 (fw1F b i w) (fun _ H => Hs H (Lst w 7 l'.length (sgCells l') :: (l'.flatMap prt ++ [Cel b [v], Bas H0]))) (fun k H K hk hS hn hx hy => ?_) 0 H (Nat.zero_le _) hs
  have bas : ∀ {A : List As} {H'}, Hs H' (A ++ (Lst w 7 l'.length (sgCells l') :: (l'.flatMap prt ++ [Cel b [v], Bas H0]))) → Same (fun _ => False) H0 H' := fun h => h.bas (by simp)
  have cel : ∀ {A : List As} {H'}, Hs H' (A ++ (Lst w 7 l'.length (sgCells l') :: (l'.flatMap prt ++ [Cel b [v], Bas H0]))) → H'.get b = .cells [v] true := fun h => h.celm (by simp)
  have own : ∀ {H'}, Hs H' (Lst w 7 l'.length (sgCells l') :: (l'.flatMap prt ++ [Cel b [v], Bas H0])) → FlR H' w l' := fun h => flR_own hok h
  have hfl := (hL _ (List.getElem_mem hi)).fl
  unfold fw1F at hn ⊢
  by_cases hlt : k < 2
  rotate_left
  · have : k = 2 := by omega
    subst this
    simp -implicitDefEqProofs -dsimp (disch := omega) only [go_sem, dec_t, dec_f, burinlaw17_FileWrites_l1]
    rw [hx]
    exact h1 H _ hS
  have hn := hn hlt
  obtain ⟨rnd, hrnd⟩ : ∃ rnd, rnd = decide (k = 1) := ⟨_, rfl⟩
  have k1 : (decide ((k : Int) = 1)) = rnd := by rw [hrnd]; by_cases h : k = 1 <;> simp [h] <;> omega
  have fin : ∀ {A : List As} H', Hs H' (A ++ (Lst w 7 l'.length (sgCells l') :: (l'.flatMap prt ++ [Cel b [v], Bas H0]))) → K .normal ⟨[(1, .ptr (some (b, 0))), (3, .int .i64 (i : Nat)), (4, w), (5, .int .i64 ((k + 1 : Nat) : Int))], []⟩ H' := fun H' h => hn H' h.cutl
  clear hn hrnd
  simp -implicitDefEqProofs -dsimp (disch := omega) only [go_sem, dec_t, dec_f, burinlaw17_FileWrites_l1, k1]
  refine write_ct hp hg hb (fun H' h => own h) (by omega) hS (fun fok fv H2 g2 => ?_) (fun fno H2 g2 => ?_)
  · have c2 := rd_s (cel (A := [_]) g2)
    obtain ⟨vb, vo, vc, hvs, ri⟩ := fl_at (hv.same (bas (A := [_]) g2) fun _ _ h => h) hi
    have hlenb := fileB_len (rnd := rnd) fok (by simp; omega)
    rw [hss] at fok g2 hlenb
    rw [hvs] at c2
    simp -implicitDefEqProofs -dsimp (disch := omega) only [go_sem, dec_t, dec_f, c2, Int.toNat_natCast, Nat.mul_one, ri, k1]
    refine writeR_ct hr7 hr hrb (fun H' h => hfl.same (bas (A := [_]) h)) (by omega) g2 (fun _ gv H3 g3 => ?_) (fun k => absurd fok k)
    simp -implicitDefEqProofs -dsimp (disch := omega) only [go_sem, dec_t, dec_f, ]
    refine eq_ct he (Hs.p1 g3).own.arr g3.own.arr (by omega) ?_
    rw [dec_t rfl]
    simp -implicitDefEqProofs -dsimp (disch := omega) only [go_sem, dec_t, dec_f, w64, cadd1]
    exact fin (A := [_, _]) H3 g3
  · have c2 := rd_s (cel (A := []) g2)
    obtain ⟨vb, vo, vc, hvs, ri⟩ := fl_at (hv.same (bas (A := []) g2) fun _ _ h => h) hi
    rw [hss] at fno
    rw [hvs] at c2
    simp -implicitDefEqProofs -dsimp (disch := omega) only [go_sem, dec_t, dec_f, c2, Int.toNat_natCast, Nat.mul_one, ri, k1]
    refine writeR_ct hr7 hr hrb (fun H' h => hfl.same (bas (A := []) h)) (by omega) g2 (fun k => absurd k fno) (fun _ H3 g3 => ?_)
    simp -implicitDefEqProofs -dsimp (disch := omega) only [go_sem, dec_t, dec_f, ]
    refine eq_ct he (bs := []) (cs := []) (Or.inl ⟨rfl, rfl, rfl⟩) (Or.inl ⟨rfl, rfl, rfl⟩) (by simp) ?_
    rw [dec_t rfl]
    simp -implicitDefEqProofs -dsimp (disch := omega) only [go_sem, dec_t, dec_f, w64, cadd1]
    exact fin (A := []) H3 g3
set_option maxHeartbeats 1000000 in
theorem fw_main {P : Prog} (hp : HasFw P) (hwk : P 201 = some cdTrue) (hg : HasSeg P) (hb : HasBits P) (hr7 : HasRf17 P) (hr : HasRf16 P) (hrb : HasRefBits P) (he : P 26 = some burinref0_Eq) (hc : P 27 = some burinref0_Copy) (hl : HasL17Writes P) {H0 : Heap} {v : V} {L : List FlO} (hv : Arr H0 v 1 L.length (L.map FlO.v)) (hL : ∀ o ∈ L, FlOk H0 o) :
    Call P 234 [.agg [v]] H0 fun o _ => o = .ret (.bool true) := by
  refine call_of hl.h_burinlaw17_FileWrites rfl ?_
  have g0 := (Hs.start H0).alloc (l := [v])
  simp -implicitDefEqProofs -dsimp (disch := omega) only [go_sem, dec_t, dec_f, ]
  generalize H0.new _ = H1 at *
  generalize H0.next = b at *
  refine loop_cnt 4 (fwF b) (fun i H => i ≤ L.length ∧ Hs H [Cel b [v], Bas H0]) (fun i H K hi hS hn hx hy => ?_) 0 H1 (Nat.zero_le _) ⟨Nat.zero_le _, g0⟩
  obtain ⟨hil, h⟩ := hS
  have rc := rd_s h.cel
  obtain ⟨va, vc, ve, hvs⟩ := hv.shape
  unfold fwF at hn ⊢
  have rc' := rc
  rw [hvs] at rc'
  by_cases hlt : i < L.length ∧ i < 4
  rotate_left
  · rcases (show ¬ i < L.length ∨ (i < L.length ∧ ¬ i < 4) by omega) with q | q
    all_goals
      simp -implicitDefEqProofs -dsimp (disch := omega) only [go_sem, dec_t, dec_f, burinlaw17_FileWrites_l0, rc']
      rw [hx]
      simp -implicitDefEqProofs -dsimp (disch := omega) only [go_sem, dec_t, dec_f, ]
      refine call_of hwk rfl ?_
      simp -implicitDefEqProofs -dsimp (disch := omega) only [go_sem, dec_t, dec_f, cdTrue]
  obtain ⟨hlt, hlt2⟩ := hlt
  have hn := fun H' h => hn hlt2 H' ⟨by omega, h⟩
  have hfl := (hL _ (List.getElem_mem hlt)).fl
  have hln := (hL _ (List.getElem_mem hlt)).len
  have at_ := fun H' (k : Same (fun _ => False) H0 H') => fl_at (hv.same k fun _ _ h => h) hlt
  obtain ⟨vb, vo, vc2, hvs2, ri⟩ := at_ H (h.bas (by simp))
  have rR : ∀ H', Same (fun _ => False) H0 H' → rd H' none vb (vo + i) = some L[i].v := fun H' k => by
    obtain ⟨b', o', c', e, r⟩ := at_ H' k
    rw [hvs2] at e
    cases e
    exact r
  rw [hvs2] at rc
  simp -implicitDefEqProofs -dsimp (disch := omega) only [go_sem, dec_t, dec_f, burinlaw17_FileWrites_l0, rc, Int.toNat_natCast, Nat.mul_one, ri]
  refine light_ct hl.h_burinlaw17_light (hfl.same (h.bas (by simp))) (by omega) fun lt hlt' => ?_
  cases lt with
  | false =>
    simp -implicitDefEqProofs -dsimp (disch := omega) only [go_sem, dec_t, dec_f, w64, cadd1]
    exact hn H h
  | true =>
  have lg := hlt' rfl
  simp -implicitDefEqProofs -dsimp (disch := omega) only [go_sem, dec_t, dec_f, rc, Int.toNat_natCast, Nat.mul_one, ri]
  refine copySegs_ct hr hc lg (fun H' h => hfl.same (h.bas (by simp))) h fun w l' H2 hss hll hok g2 => ?_
  simp -implicitDefEqProofs -dsimp (disch := omega) only [go_sem, dec_t, dec_f, ]
  refine fw_inner hp hg hb hr7 hr hrb he hv hL hlt hss hok lg g2 fun H3 ex g3 => ?_
  have c3 := rd_s (g3.celm (b := b) (l := [v]) (by simp))
  have r3 := rR H3 (g3.bas (by simp))
  rw [hvs2] at c3
  simp -implicitDefEqProofs -dsimp (disch := omega) only [go_sem, dec_t, dec_f, c3, Int.toNat_natCast, Nat.mul_one, r3]
  refine eqSegs_ct hl.h_burinref0_EqSegments hg he (flR_own hok g3) (hfl.same (g3.bas (by simp))) hss (by have := lg.len; omega) fun H4 s4 => ?_
  simp -implicitDefEqProofs -dsimp (disch := omega) only [go_sem, dec_t, dec_f, w64, cadd1]
  exact hn H4 (Hs.cutl (A := Lst w 7 l'.length (sgCells l') :: l'.flatMap prt) (by simpa using g3.keep s4))
theorem law_FileWrites {P : Prog} (hp : HasFw P) (hwk : P 201 = some cdTrue) (hg : HasSeg P) (hb : HasBits P) (hr7 : HasRf17 P) (hr : HasRf16 P) (hrb : HasRefBits P) (he : P 26 = some burinref0_Eq) (hc : P 27 = some burinref0_Copy) (hl : HasL17Writes P) (H : Heap) (cs : List V) (x : TD.Ty madeTD) (h : Is H madeTD cs x) :
    Call P 234 [argV madeTD cs] H fun o _ => o = .ret (.bool true) := by
  obtain ⟨v, L, rfl, k1, k2⟩ := is_made h
  exact fw_main hp hwk hg hb hr7 hr hrb he hc hl k1 k2
end Go.Ab
namespace Go.Ab
inductive Tr where
  | leaf
  | node (o : Obj) (l r : Tr)
def Tr.get : Tr → Nat → Obj
  | .leaf, _ => .dead
  | .node o l r, n => if n = 0 then o else if n % 2 = 1 then l.get (n / 2) else r.get (n / 2 - 1)
def Tr.put : Nat → Tr → Nat → Obj → Option Tr
  | 0, _, _, _ => none
  | f + 1, t, n, o => match t with
    | .leaf => if n = 0 then some (.node o .leaf .leaf) else if n % 2 = 1 then (Tr.put f .leaf (n / 2) o).map fun l => .node .dead l .leaf else (Tr.put f .leaf (n / 2 - 1) o).map fun r => .node .dead .leaf r
    | .node x l r => if n = 0 then some (.node o l r) else if n % 2 = 1 then (Tr.put f l (n / 2) o).map fun l => .node x l r else (Tr.put f r (n / 2 - 1) o).map fun r => .node x l r
theorem Tr.get_put : ∀ (f : Nat) (t : Tr) (n : Nat) (o : Obj) (t' : Tr), Tr.put f t n o = some t' → ∀ m, t'.get m = if m = n then o else t.get m
  | 0, _, _, _, _, h, _ => by cases h
  | f + 1, t, n, o, t', h, m => by
    cases t with
    | leaf =>
      simp only [Tr.put] at h
      split at h
      · rename_i hn; subst hn; cases h; simp only [Tr.get]; by_cases hm : m = 0 <;> simp [hm]
      · rename_i hn
        split at h
        · rename_i h2
          obtain ⟨l, h3, h4⟩ := Option.map_eq_some_iff.1 h
          subst h4
          simp only [Tr.get]
          have ih := Tr.get_put f .leaf (n / 2) o l h3
          by_cases hm : m = 0
          · rw [if_pos hm, if_neg (by omega)]
          · rw [if_neg hm]
            by_cases m2 : m % 2 = 1
            · rw [if_pos m2, ih]
              by_cases e : m / 2 = n / 2
              · rw [if_pos e, if_pos (by omega)]
              · rw [if_neg e, if_neg (by omega)]; rfl
            · rw [if_neg m2, if_neg (by omega)]
        · rename_i h2
          obtain ⟨l, h3, h4⟩ := Option.map_eq_some_iff.1 h
          subst h4
          simp only [Tr.get]
          have ih := Tr.get_put f .leaf (n / 2 - 1) o l h3
          by_cases hm : m = 0
          · rw [if_pos hm, if_neg (by omega)]
          · rw [if_neg hm]
            by_cases m2 : m % 2 = 1
            · rw [if_pos m2, if_neg (by omega)]
            · rw [if_neg m2, ih]
              by_cases e : m / 2 - 1 = n / 2 - 1
              · rw [if_pos e, if_pos (by omega)]
              · rw [if_neg e, if_neg (by omega)]; rfl
    | node x l r =>
      simp only [Tr.put] at h
      split at h
      · rename_i hn; subst hn; cases h; simp only [Tr.get]; by_cases hm : m = 0 <;> simp [hm]
      · rename_i hn
        split at h
        · rename_i h2
          obtain ⟨l', h3, h4⟩ := Option.map_eq_some_iff.1 h
          subst h4
          simp only [Tr.get]
          have ih := Tr.get_put f l (n / 2) o l' h3
          by_cases hm : m = 0
          · rw [if_pos hm, if_neg (by omega), if_pos hm]
          · rw [if_neg hm, if_neg hm]
            by_cases m2 : m % 2 = 1
            · rw [if_pos m2, if_pos m2, ih]
              by_cases e : m / 2 = n / 2
              · rw [if_pos e, if_pos (by omega)]
              · rw [if_neg e, if_neg (by omega)]
            · rw [if_neg m2, if_neg m2, if_neg (by omega)]
        · rename_i h2
          obtain ⟨r', h3, h4⟩ := Option.map_eq_some_iff.1 h
          subst h4
          simp only [Tr.get]
          have ih := Tr.get_put f r (n / 2 - 1) o r' h3
          by_cases hm : m = 0
          · rw [if_pos hm, if_neg (by omega), if_pos hm]
          · rw [if_neg hm, if_neg hm]
            by_cases m2 : m % 2 = 1
            · rw [if_pos m2, if_pos m2, if_neg (by omega)]
            · rw [if_neg m2, if_neg m2, ih]
              by_cases e : m / 2 - 1 = n / 2 - 1
              · rw [if_pos e, if_pos (by omega)]
              · rw [if_neg e, if_neg (by omega)]
structure EH where
  next : Nat
  t : Tr
def EH.hp (E : EH) : Heap := ⟨E.next, E.t.get⟩
def EH.put (E : EH) (b : Nat) (o : Obj) : Option EH := (Tr.put 40 E.t b o).map fun t => ⟨E.next, t⟩
def EH.new (E : EH) (o : Obj) : Option EH := (Tr.put 40 E.t E.next o).map fun t => ⟨E.next + 1, t⟩
theorem EH.put_hp {E E' : EH} {b : Nat} {o : Obj} (h : E.put b o = some E') : E'.hp = E.hp.put b o := by
  unfold EH.put at h
  obtain ⟨t, h1, h2⟩ := Option.map_eq_some_iff.1 h
  subst h2
  unfold EH.hp Heap.put
  congr 1
  funext m
  exact Tr.get_put 40 E.t b o t h1 m
theorem EH.new_hp {E E' : EH} {o : Obj} (h : E.new o = some E') : E'.hp = E.hp.new o := by
  unfold EH.new at h
  obtain ⟨t, h1, h2⟩ := Option.map_eq_some_iff.1 h
  subst h2
  unfold EH.hp Heap.new
  congr 1
  funext m
  exact Tr.get_put 40 E.t E.next o t h1 m
mutual
def veq : V → V → Bool
  | .bool a, .bool b => a == b
  | .int k a, .int k' b => decide (k = k') && decide (a = b)
  | .flt k a, .flt k' b => decide (k = k') && decide (a = b)
  | .str a, .str b => decide (a = b)
  | .ptr a, .ptr b => decide (a = b)
  | .sl a l c e, .sl a' l' c' e' => decide (a = a') && decide (l = l') && decide (c = c') && decide (e = e')
  | .map a, .map b => decide (a = b)
  | .fn g f c, .fn g' f' c' => decide (g = g') && veqL f f' && veqL c c'
  | .nilfn, .nilfn => true
  | .ifc t v, .ifc t' v' => decide (t = t') && veq v v'
  | .nilifc, .nilifc => true
  | .agg l, .agg l' => veqL l l'
  | .tup l, .tup l' => veqL l l'
  | .un, .un => true
  | _, _ => false
def veqL : List V → List V → Bool
  | [], [] => true
  | a :: l, b :: m => veq a b && veqL l m
  | _, _ => false
end
mutual
theorem veq_eq : ∀ (a b : V), veq a b = true → a = b := fun a b h => by
  cases a <;> cases b <;> simp only [veq, Bool.and_eq_true, decide_eq_true_eq, beq_iff_eq, Bool.false_eq_true] at h
  case bool.bool => rw [h]
  case int.int => rw [h.1, h.2]
  case flt.flt => rw [h.1, h.2]
  case str.str => rw [h]
  case ptr.ptr => rw [h]
  case sl.sl => rw [h.1.1.1, h.1.1.2, h.1.2, h.2]
  case map.map => rw [h]
  case fn.fn => rw [h.1.1, veqL_eq _ _ h.1.2, veqL_eq _ _ h.2]
  case nilfn.nilfn => rfl
  case ifc.ifc => rw [h.1, veq_eq _ _ h.2]
  case nilifc.nilifc => rfl
  case agg.agg => rw [veqL_eq _ _ h]
  case tup.tup => rw [veqL_eq _ _ h]
  case un.un => rfl
theorem veqL_eq : ∀ (a b : List V), veqL a b = true → a = b := fun a b h => by
  cases a with
  | nil => cases b with
    | nil => rfl
    | cons y m => simp [veqL] at h
  | cons x l => cases b with
    | nil => simp [veqL] at h
    | cons y m =>
      simp only [veqL, Bool.and_eq_true] at h
      rw [veq_eq _ _ h.1, veqL_eq _ _ h.2]
end
def wrE (E : EH) (b o : Nat) (vs : List V) : Option EH :=
  match E.t.get b with
  | .cells l true => if o + vs.length ≤ l.length then (if vs.all one then E.put b (.cells (over l o vs) true) else none) else none
  | _ => none
theorem wrE_hp {E E' : EH} {b o : Nat} {vs : List V} (h : wrE E b o vs = some E') : wr E.hp b o vs = some E'.hp := by
  unfold wrE at h
  unfold wr
  split at h
  · rename_i l hg
    have hg' : E.hp.get b = .cells l true := hg
    rw [hg']
    split at h
    · rename_i hl
      split at h
      · rename_i ho
        dsimp only
        rw [if_pos hl, if_pos ho, EH.put_hp h]
      · cases h
    · cases h
  · cases h
def appE (E : EH) (esz eb : Nat) (x y : V) : Option (V × EH) :=
  match x, firsts E.hp esz y with
  | .sl a len cap e, some (n, new) =>
    if a.isSome && e != esz then none else
    if new.all one then
    if len + n ≤ cap then
      match a with
      | some (b, o) => if new.isEmpty then some (.sl (some (b, o)) (len + n) cap esz, E) else (wrE E b (o + len * esz) new).map fun H' => (.sl (some (b, o)) (len + n) cap esz, H')
      | none => some (.sl none 0 0 0, E)
    else if growOk a (len + n) eb then
      match a with
      | none => if len = 0 then (E.new (.cells new true)).map fun E' => (.sl (some (E.next, 0)) n n esz, E') else none
      | some (b, o) => match E.t.get b with
        | .cells l true => match piece l o (len * esz) with
          | some old => ((E.put b .dead).bind fun E' => E'.new (.cells (old ++ new) true)).map fun E' => (.sl (some (E.next, 0)) (len + n) (len + n) esz, E')
          | none => none
        | _ => none
    else none
    else none
  | _, _ => none
theorem appE_hp {E E' : EH} {esz eb : Nat} {x y v : V} (h : appE E esz eb x y = some (v, E')) : app E.hp esz eb x y = some (v, E'.hp) := by
  unfold appE at h
  unfold app
  split at h
  · rename_i a len cap e n new hf
    rw [hf]
    dsimp only
    split at h
    · cases h
    · rename_i h1
      rw [if_neg h1]
      split at h
      · rename_i h2
        rw [if_pos h2]
        split at h
        · rename_i h3
          rw [if_pos h3]
          split at h
          · rename_i b o
            split at h
            · rename_i h4; dsimp only; rw [if_pos h4]; cases h; rfl
            · rename_i h4
              obtain ⟨E1, k1, k2⟩ := Option.map_eq_some_iff.1 h
              cases k2
              dsimp only
              rw [if_neg h4, wrE_hp k1]; rfl
          · cases h; rfl
        · rename_i h3
          rw [if_neg h3]
          split at h
          · rename_i h4
            rw [if_pos h4]
            split at h
            · split at h
              · rename_i h5
                obtain ⟨E1, k1, k2⟩ := Option.map_eq_some_iff.1 h
                cases k2
                dsimp only
                rw [if_pos h5, EH.new_hp k1]; rfl
              · cases h
            · rename_i b o
              split at h
              · rename_i l hg
                split at h
                · rename_i old hp
                  obtain ⟨E1, k1, k2⟩ := Option.map_eq_some_iff.1 h
                  cases k2
                  obtain ⟨E2, k3, k4⟩ := Option.bind_eq_some_iff.1 k1
                  have hg' : E.hp.get b = .cells l true := hg
                  dsimp only
                  rw [hg']
                  dsimp only
                  rw [hp]
                  dsimp only
                  rw [EH.new_hp k4, EH.put_hp k3]; rfl
                · cases h
              · cases h
          · cases h
      · cases h
  · cases h
def cpyE (E : EH) (esz : Nat) (x y : V) : Option (V × EH) :=
  match x, firsts E.hp esz y with
  | .sl a dlen _ e, some (n, new) =>
    if a.isSome && e != esz then none else
    let m := min n dlen
    match a with
    | none => some (.int .i64 0, E)
    | some (b, o) => if m * esz = 0 then some (.int .i64 m, E) else (wrE E b o (new.take (m * esz))).map fun H' => (.int .i64 m, H')
  | _, _ => none
theorem cpyE_hp {E E' : EH} {esz : Nat} {x y v : V} (h : cpyE E esz x y = some (v, E')) : cpy E.hp esz x y = some (v, E'.hp) := by
  unfold cpyE at h
  unfold cpy
  split at h
  · rename_i a dlen cap e n new hf
    rw [hf]
    dsimp only
    split at h
    · cases h
    · rename_i h1
      rw [if_neg h1]
      cases a with
      | none => dsimp only at h ⊢; cases h; rfl
      | some bo =>
        obtain ⟨b, o⟩ := bo
        dsimp only at h ⊢
        split at h
        · rename_i h2; rw [if_pos h2]; cases h; rfl
        · rename_i h2
          rw [if_neg h2]
          obtain ⟨E1, k1, k2⟩ := Option.map_eq_some_iff.1 h
          cases k2
          rw [wrE_hp k1]; rfl
  · cases h
/-- Does it change memory? -/
def AOp.heavy : AOp → Bool
  | .store _ _ _ | .append _ _ _ _ | .copy _ _ _ | .alloc _ | .box _ _ | .bslice _ _ _ _ | .mkslice _ _ _ _ _ => true
  | _ => false
theorem step_light {fr : Fr} {H H' : Heap} {op : AOp} {v : V} (hh : op.heavy = false) (h : step fr H op = some (v, H')) : H' = H := by
  cases op
  case store => exact Bool.noConfusion (show true = false from hh)
  case append => exact Bool.noConfusion (show true = false from hh)
  case copy => exact Bool.noConfusion (show true = false from hh)
  case alloc => exact Bool.noConfusion (show true = false from hh)
  case box => exact Bool.noConfusion (show true = false from hh)
  case bslice => exact Bool.noConfusion (show true = false from hh)
  case mkslice => exact Bool.noConfusion (show true = false from hh)
  case len arr x =>
    cases arr with
    | none =>
      simp only [step] at h
      split at h
      · cases h; rfl
      · cases h
    | some n =>
      simp only [step] at h
      obtain ⟨_, _, k⟩ := Option.map_eq_some_iff.1 h; cases k; rfl
  all_goals simp only [step, fresh] at h
  all_goals (try (repeat' (split at h)))
  all_goals first
    | (cases h; done)
    | (cases h; rfl)
    | (obtain ⟨_, _, k⟩ := Option.map_eq_some_iff.1 h; cases k; rfl)
def stepE (fr : Fr) (E : EH) (op : AOp) : Option (V × EH) :=
  match op with
  | .store n a x => match opd fr a, opd fr x with
    | some (.ptr (some (b, o))), some v => if v.cells.length = n then (wrE E b o v.cells).map fun H' => (.un, H') else none
    | _, _ => none
  | .append esz eb x y => match opd fr x, opd fr y with
    | some a, some b => appE E esz eb a b
    | _, _ => none
  | .copy esz x y => match opd fr x, opd fr y with
    | some a, some b => cpyE E esz a b
    | _, _ => none
  | op => if op.heavy then (match fresh fr op with
      | some (cs, v) => (E.new (.cells cs true)).map fun E' => (v E.next, E')
      | none => none)
    else (step fr E.hp op).map fun x => (x.1, E)
theorem stepE_hp {fr : Fr} {E E' : EH} {op : AOp} {v : V} (h : stepE fr E op = some (v, E')) : step fr E.hp op = some (v, E'.hp) := by
  have light : ∀ op : AOp, op.heavy = false → (step fr E.hp op).map (fun x => (x.1, E)) = some (v, E') → step fr E.hp op = some (v, E'.hp) := fun op hh h => by
    obtain ⟨⟨v', H'⟩, k1, k2⟩ := Option.map_eq_some_iff.1 h
    cases k2
    rw [k1, step_light hh k1]
  have lay : ∀ op : AOp, (∀ H, step fr H op = match fresh fr op with | some (cs, v) => some (v H.next, H.new (.cells cs true)) | none => none) → (match fresh fr op with | some (cs, v) => (E.new (.cells cs true)).map fun E' => (v E.next, E') | none => none) = some (v, E') → step fr E.hp op = some (v, E'.hp) := fun op e h => by
    rw [e]
    split at h
    · rename_i cs mk hf
      obtain ⟨E1, k1, k2⟩ := Option.map_eq_some_iff.1 h
      cases k2
      rw [EH.new_hp k1]; rfl
    · cases h
  cases op
  case store n a x =>
    simp only [stepE] at h
    simp only [step]
    split at h
    · rename_i b o v0 e1 e2
      rw [e1, e2]
      dsimp only
      split at h
      · rename_i hn
        obtain ⟨E1, k1, k2⟩ := Option.map_eq_some_iff.1 h
        cases k2
        rw [if_pos hn, wrE_hp k1]; rfl
      · cases h
    · cases h
  case append esz eb x y =>
    simp only [stepE] at h
    simp only [step]
    split at h
    · rename_i a b e1 e2
      rw [e1, e2]
      exact appE_hp h
    · cases h
  case copy esz x y =>
    simp only [stepE] at h
    simp only [step]
    split at h
    · rename_i a b e1 e2
      rw [e1, e2]
      exact cpyE_hp h
    · cases h
  case alloc z => exact lay (.alloc z) (fun H => rfl) (by simpa [stepE, AOp.heavy] using h)
  case box n x => exact lay (.box n x) (fun H => rfl) (by simpa [stepE, AOp.heavy] using h)
  case bslice e z l ps => exact lay (.bslice e z l ps) (fun H => rfl) (by simpa [stepE, AOp.heavy] using h)
  case mkslice e eb z l c => exact lay (.mkslice e eb z l c) (fun H => rfl) (by simpa [stepE, AOp.heavy] using h)
  all_goals exact light _ rfl (by simpa only [stepE, AOp.heavy, Bool.false_eq_true, if_false] using h)
def mpE (fr : Fr) (E : EH) (d : Option Nat) (q : MOp) : Option (Fr × EH) :=
  match q with
  | .mk => (E.new (.map [])).map fun E' => (fr.put d (.map (some E.next)), E')
  | .look z ok m k => match opd fr m, opd fr k with
    | some (.map (some r)), some (.int .i64 n) => (match E.t.get r with
      | .map es => (match mget es n with
        | some v => some (fr.put d (if ok then .tup [v, .bool true] else v), E)
        | none => some (fr.put d (if ok then .tup [z, .bool false] else z), E))
      | .dmap es => (match mget es n with
        | some v => some (fr.put d (if ok then .tup [v, .bool true] else v), E)
        | none => some (fr.put d (if ok then .tup [z, .bool false] else z), E))
      | _ => none)
    | _, _ => none
  | .upd m k v => match opd fr m, opd fr k, opd fr v with
    | some (.map (some r)), some (.int .i64 n), some v => (match E.t.get r with
      | .map es => (E.put r (.map (mput es n v))).map fun E' => (fr.put d .un, E')
      | .dmap es => (E.put r (.dmap (mput es n v))).map fun E' => (fr.put d .un, E')
      | _ => none)
    | _, _, _ => none
  | .range m => match opd fr m with
    | some (.map (some r)) => (match E.t.get r with
      | .map es => (E.new (.iter r es.length [])).map fun E' => (fr.put d (.ptr (some (E.next, 0))), E')
      | _ => none)
    | _ => none
  | .next it => match opd fr it with
    | some (.ptr (some (b, 0))) => (match E.t.get b with
      | .iter r since seen => (match E.t.get r with
        | .map es => if es.length = since then (match es, seen with
          | [], _ => some (fr.put d (.tup [.bool false]), E)
          | [_], [0] => some (fr.put d (.tup [.bool false]), E)
          | [e], [] => (E.put b (.iter r since [0])).map fun E' => (fr.put d (.tup [.bool true, .int .i64 e.1, e.2]), E')
          | _, _ => none) else none
        | _ => none)
      | _ => none)
    | _ => none
  | .entry it => match opd fr it with
    | some (.ptr (some (b, 0))) => (match E.t.get b with
      | .iter r since seen => (match E.t.get r, seen.getLast? with
        | .map es, some i => (match es[i]? with
          | some e => if es.length = since then some (fr.put d (.tup [.int .i64 e.1, e.2]), E) else none
          | none => none)
        | _, _ => none)
      | _ => none)
    | _ => none
  | .app2 _ _ _ _ => none
  | .del m k => match opd fr m, opd fr k with
    | some (.map (some r)), some (.int .i64 n) => (match E.t.get r with
      | .map es => (match mget es n with
        | some _ => (E.put r (.dmap (mdel es n))).map fun E' => (fr.put d .un, E')
        | none => (E.put r (.map es)).map fun E' => (fr.put d .un, E'))
      | .dmap es => (E.put r (.dmap (mdel es n))).map fun E' => (fr.put d .un, E')
      | _ => none)
    | _, _ => none
  | .mark x => match opd fr x with
    | some (.sl (some (b, o)) n c e) => (match E.t.get b with
      | .cells l true => if 0 < c then (E.put b (.cells l true)).map fun E' => (fr.put d (.sl (some (b, o)) n c e), E') else none
      | _ => none)
    | _ => none
  | .s2b x => match opd fr x with
    | some (.str s) => (E.new (.cells (s.data.toList.map fun b => .int .u8 b.toNat) true)).map fun E' => (fr.put d (.sl (some (E.next, 0)) s.size s.size 1), E')
    | _ => none
  | .b2s x => match opd fr x with
    | some (.sl b n c e) => (match firsts E.hp 1 (.sl b n c e) with
      | some (_, cs) => (match u8sO cs with
        | some ns => some (fr.put d (.str (strOf ns)), E)
        | none => none)
      | none => none)
    | _ => none
theorem mpE_hp {fr fr' : Fr} {E E' : EH} {d : Option Nat} {q : MOp} {K : Fr → Heap → Prop} (h : mpE fr E d q = some (fr', E')) (k : K fr' E'.hp) : evM fr E.hp d q K := by
  have hg : ∀ b, E.hp.get b = E.t.get b := fun _ => rfl
  cases q with
  | mk =>
    simp only [mpE] at h
    obtain ⟨E1, k1, k2⟩ := Option.map_eq_some_iff.1 h
    cases k2
    rw [EH.new_hp k1] at k
    exact k
  | look z ok m kk =>
    simp only [mpE] at h
    simp only [evM]
    split at h
    · rename_i r n e1 e2
      rw [e1, e2]
      (try dsimp only)
      rw [hg]
      split at h
      · rename_i es he
        rw [he]
        (try dsimp only)
        split at h
        · rename_i v hv; rw [hv]; cases h; exact k
        · rename_i hv; rw [hv]; cases h; exact k
      · rename_i es he
        rw [he]
        (try dsimp only)
        split at h
        · rename_i v hv; rw [hv]; cases h; exact k
        · rename_i hv; rw [hv]; cases h; exact k
      · cases h
    · cases h
  | upd m kk v =>
    simp only [mpE] at h
    simp only [evM]
    split at h
    · rename_i r n v e1 e2 e3
      rw [e1, e2, e3]
      (try dsimp only)
      rw [hg]
      split at h
      · rename_i es he
        rw [he]
        obtain ⟨E1, k1, k2⟩ := Option.map_eq_some_iff.1 h
        cases k2
        rw [EH.put_hp k1] at k
        exact k
      · rename_i es he
        rw [he]
        obtain ⟨E1, k1, k2⟩ := Option.map_eq_some_iff.1 h
        cases k2
        rw [EH.put_hp k1] at k
        exact k
      · cases h
    · cases h
  | range m =>
    simp only [mpE] at h
    simp only [evM]
    split at h
    · rename_i r e1
      rw [e1]
      (try dsimp only)
      rw [hg]
      split at h
      · rename_i es he
        rw [he]
        obtain ⟨E1, k1, k2⟩ := Option.map_eq_some_iff.1 h
        cases k2
        rw [EH.new_hp k1] at k
        exact k
      · cases h
    · cases h
  | next it =>
    simp only [mpE] at h
    simp only [evM]
    split at h
    · rename_i b e1
      rw [e1]
      split
      rotate_left
      · rename_i hne; exact (hne b rfl).elim
      rename_i b' heq
      cases heq
      rw [hg]
      split at h
      · rename_i r since seen he
        rw [he]
        (try dsimp only)
        rw [hg]
        split at h
        · rename_i es hes
          rw [hes]
          (try dsimp only)
          split at h
          · rename_i hl
            split at h
            · cases h
              exact ⟨hl, fun _ => k, fun i e he => by simp at he⟩
            · cases h
              refine ⟨hl, fun _ => k, fun i e he hi => ?_⟩
              cases i with
              | zero => exact absurd (List.mem_singleton.2 rfl) hi
              | succ i => simp at he
            · rename_i e
              obtain ⟨E1, k1, k2⟩ := Option.map_eq_some_iff.1 h
              cases k2
              refine ⟨hl, fun hc => ?_, fun i e' he' hi => ?_⟩
              · have := hc 0 (by simp); cases this
              · cases i with
                | zero =>
                  simp at he'; subst he'
                  rw [EH.put_hp k1] at k
                  exact k
                | succ i => simp at he'
            · cases h
          · cases h
        · cases h
      · cases h
    · cases h
  | entry it =>
    simp only [mpE] at h
    simp only [evM]
    split at h
    · rename_i b e1
      rw [e1]
      split
      rotate_left
      · rename_i hne; exact (hne b rfl).elim
      rename_i b' heq
      cases heq
      rw [hg]
      split at h
      · rename_i r since seen he
        rw [he]
        (try dsimp only)
        rw [hg]
        split at h
        · rename_i es i hes hi
          rw [hes, hi]
          (try dsimp only)
          split at h
          · rename_i e hee
            rw [hee]
            (try dsimp only)
            split at h
            · rename_i hl; cases h; exact ⟨hl, k⟩
            · cases h
          · cases h
        · cases h
      · cases h
    · cases h
  | app2 _ _ _ _ => cases h
  | del m kk =>
    simp only [mpE] at h
    simp only [evM]
    split at h
    · rename_i r n e1 e2
      rw [e1, e2]
      (try dsimp only)
      rw [hg]
      split at h
      · rename_i es he
        rw [he]
        (try dsimp only)
        split at h
        · rename_i v hv
          rw [hv]
          obtain ⟨E1, k1, k2⟩ := Option.map_eq_some_iff.1 h
          cases k2
          rw [EH.put_hp k1] at k
          exact k
        · rename_i hv
          rw [hv]
          obtain ⟨E1, k1, k2⟩ := Option.map_eq_some_iff.1 h
          cases k2
          rw [EH.put_hp k1] at k
          exact k
      · rename_i es he
        rw [he]
        obtain ⟨E1, k1, k2⟩ := Option.map_eq_some_iff.1 h
        cases k2
        rw [EH.put_hp k1] at k
        exact k
      · cases h
    · cases h
  | mark x =>
    simp only [mpE] at h
    simp only [evM]
    split at h
    · rename_i b o n c e e1
      rw [e1]
      (try dsimp only)
      rw [hg]
      split at h
      · rename_i l he
        rw [he]
        split at h
        · rename_i hc
          obtain ⟨E1, k1, k2⟩ := Option.map_eq_some_iff.1 h
          cases k2
          rw [EH.put_hp k1] at k
          exact ⟨hc, k⟩
        · cases h
      · cases h
    · cases h
  | s2b x =>
    simp only [mpE] at h
    simp only [evM]
    split at h
    · rename_i st e1
      rw [e1]
      obtain ⟨E1, k1, k2⟩ := Option.map_eq_some_iff.1 h
      cases k2
      rw [EH.new_hp k1] at k
      exact k
    · cases h
  | b2s x =>
    simp only [mpE] at h
    simp only [evM]
    split at h
    · rename_i b n c e e1
      rw [e1]
      (try dsimp only)
      split at h
      · rename_i n' cs e2
        rw [e2]
        (try dsimp only)
        split at h
        · rename_i ns e3
          rw [e3]
          cases h
          exact k
        · cases h
      · cases h
    · cases h
abbrev CE := Nat → List V → EH → Option (Out × EH)
def opE (C : CE) (fr : Fr) (E : EH) (o : AOper) : Option (Sum (Fr × EH) (V × EH)) :=
  match o.op with
  | .call f args => match callee fr f args with
    | some (g, l) => match C g l E with
      | some (.ret v, E') => some (.inl (fr.put o.dst v, E'))
      | some (.pan v, E') => some (.inr (v, E'))
      | none => none
    | none => none
  | .dfr f args => match callee fr f args with
    | some (g, l) => some (.inl (⟨(fr.put o.dst .un).tm, (g, l) :: fr.ds⟩, E))
    | none => none
  | .pan x => match opd fr x with
    | some (.ifc t v) => some (.inr (.ifc t v, E))
    | _ => none
  | .mp q => (mpE fr E o.dst q).map .inl
  | .yc f args => match opd fr f, opds fr args with
    | some (.yld y b), some l => match C y (.yld y b :: l) E with
      | some (.ret v, E') => some (.inl (fr.put o.dst v, E'))
      | _ => none
    | _, _ => none
  | p => (stepE fr E p).map fun x => .inl (fr.put o.dst x.1, x.2)
def CEok (C : CE) (D : CallT) : Prop := ∀ g l E o E', C g l E = some (o, E') → ∀ Q : Out → Heap → Prop, Q o E'.hp → D g l E.hp Q
theorem opE_hp {C : CE} {D : CallT} (hC : CEok C D) {fr : Fr} {E : EH} {o : AOper} {r : Sum (Fr × EH) (V × EH)} {K : Fr → Heap → Prop} {X : V → Heap → Prop} (h : opE C fr E o = some r)
    (k : match r with | .inl (fr', E') => K fr' E'.hp | .inr (v, E') => X v E'.hp) : evOp D fr E.hp o K X := by
  have gen : ∀ p : AOp, (match stepE fr E p with | some (v, E') => some (Sum.inl (fr.put o.dst v, E')) | none => none) = some r → (match step fr E.hp p with | some (v, H') => K (fr.put o.dst v) H' | none => False) := fun p h => by
    split at h
    · rename_i v E1 hs
      cases h
      rw [stepE_hp hs]
      exact k
    · cases h
  have gen' : ∀ p : AOp, (stepE fr E p).map (fun x => (Sum.inl (fr.put o.dst x.1, x.2) : Sum (Fr × EH) (V × EH))) = some r → (match step fr E.hp p with | some (v, H') => K (fr.put o.dst v) H' | none => False) := fun p h => gen p (by
    cases hs : stepE fr E p with
    | none => rw [hs] at h; cases h
    | some x => rw [hs] at h; exact h)
  unfold opE at h
  unfold evOp
  cases ho : o.op
  case call f args =>
    rw [ho] at h
    dsimp only at h ⊢
    split at h
    · rename_i g l hc
      rw [hc]
      (try dsimp only)
      split at h
      · rename_i v E1 he; cases h; exact hC g l E _ E1 he _ k
      · rename_i v E1 he; cases h; exact hC g l E _ E1 he _ k
      · cases h
    · cases h
  case dfr f args =>
    rw [ho] at h
    dsimp only at h ⊢
    split at h
    · rename_i g l hc; rw [hc]; cases h; exact k
    · cases h
  case pan x =>
    rw [ho] at h
    dsimp only at h ⊢
    split at h
    · rename_i t v hv; rw [hv]; cases h; exact k
    · cases h
  case mp q =>
    rw [ho] at h
    dsimp only at h ⊢
    obtain ⟨⟨fr', E'⟩, k1, k2⟩ := Option.map_eq_some_iff.1 h
    cases k2
    exact mpE_hp k1 k
  case yc f args =>
    rw [ho] at h
    dsimp only at h ⊢
    split at h
    · rename_i y b l e1 e2
      rw [e1, e2]
      (try dsimp only)
      split at h
      · rename_i v E1 he; cases h; exact hC y _ E _ E1 he _ k
      · cases h
    · cases h
  all_goals
    rw [ho] at h
    exact gen' _ h
def opsE (C : CE) : List AOper → Fr → EH → Option (Sum (Fr × EH) (Fr × V × EH))
  | [], fr, E => some (.inl (fr, E))
  | o :: r, fr, E => match (match o.g with
      | none => some true
      | some (t, want) => match fr.get t with
        | some (.bool b) => some (b == want)
        | some (.tup []) => some false
        | _ => none) with
    | some true => (match opE C fr E o with
      | some (.inl (fr', E')) => opsE C r fr' E'
      | some (.inr (v, E')) => some (.inr (fr, v, E'))
      | none => none)
    | some false => opsE C r (fr.put o.dst (.tup [])) E
    | none => none
def goes (fr : Fr) (o : AOper) : Option Bool := match o.g with
  | none => some true
  | some (t, want) => match fr.get t with
    | some (.bool b) => some (b == want)
    | some (.tup []) => some false
    | _ => none
theorem opsE_hp {C : CE} {D : CallT} (hC : CEok C D) {X : Fr → V → Heap → Prop} {K : Fr → Heap → Prop} : ∀ (ops : List AOper) (fr : Fr) (E : EH) (r : Sum (Fr × EH) (Fr × V × EH)), opsE C ops fr E = some r →
    (match r with | .inl (fr', E') => K fr' E'.hp | .inr (fr', v, E') => X fr' v E'.hp) → evOps D X K ops fr E.hp
  | [], fr, E, r, h, k => by cases h; exact k
  | o :: l, fr, E, r, h, k => by
    have main : (match opE C fr E o with | some (.inl (fr', E')) => opsE C l fr' E' | some (.inr (v, E')) => some (.inr (fr, v, E')) | none => none) = some r → evOp D fr E.hp o (evOps D X K l) (X fr) := fun h => by
      split at h
      · rename_i fr' E' he
        exact opE_hp hC he (opsE_hp hC l fr' E' r h k)
      · rename_i v E' he
        cases h
        exact opE_hp hC he k
      · cases h
    simp only [opsE] at h
    simp only [evOps]
    cases hg : o.g with
    | none => rw [hg] at h; exact main h
    | some tw =>
      obtain ⟨t, want⟩ := tw
      rw [hg] at h
      dsimp only at h ⊢
      cases hv : fr.get t with
      | none => rw [hv] at h; cases h
      | some v =>
        rw [hv] at h
        cases v <;> (try (cases h; done))
        case bool b =>
          dsimp only at h ⊢
          unfold gif
          cases hb : b == want with
          | true => rw [hb] at h; rw [if_pos rfl]; exact main h
          | false => rw [hb] at h; rw [if_neg (by decide)]; exact opsE_hp hC l _ E r h k
        case tup l' =>
          cases l' with
          | nil => exact opsE_hp hC l _ E r h k
          | cons a b => cases h
def blkOf : V → Option Nat
  | .ptr (some (b, 0)) => some b
  | .sl (some (b, 0)) _ _ _ => some b
  | _ => none
def cellsEq (o : Obj) (cs : List V) : Bool := match o with
  | .cells l true => veqL l cs
  | _ => false
def recheckB (fr : Fr) (E : EH) (y : AOper) : Bool := match y.dst with
  | none => false
  | some t => match fresh fr y.op with
    | some (cs, mk) => (match fr.get t with
      | some v => (match blkOf v with
        | some b => veq v (mk b) && cellsEq (E.t.get b) cs
        | none => false)
      | none => false)
    | none => (match fr.get t, step fr E.hp y.op with
      | some v, some (v', _) => !y.op.heavy && veq v' v
      | _, _ => false)
theorem recheckB_ok {fr : Fr} {E : EH} {y : AOper} (h : recheckB fr E y = true) : recheck fr E.hp y := by
  unfold recheckB at h
  unfold recheck
  split at h
  · cases h
  · rename_i t ht
    rw [ht]
    dsimp only
    split at h
    · rename_i cs mk hf
      rw [hf]
      dsimp only
      split at h
      · rename_i v hv
        split at h
        · rename_i b hb
          rw [Bool.and_eq_true] at h
          refine ⟨b, by rw [hv, veq_eq _ _ h.1], ?_⟩
          have h2 := h.2
          unfold cellsEq at h2
          split at h2
          · rename_i l hl
            show E.t.get b = _
            rw [hl, veqL_eq _ _ h2]
          · cases h2
        · cases h
      · cases h
    · rename_i hf
      rw [hf]
      dsimp only
      split at h
      · rename_i v v' H' hv hs
        rw [Bool.and_eq_true, Bool.not_eq_true'] at h
        refine ⟨v, hv, ?_⟩
        rw [hs, step_light h.1 hs, veq_eq _ _ h.2]
      · cases h
def rechecksB (fr : Fr) (E : EH) (re : List Nat) : List AOper → Bool
  | [] => true
  | y :: acc => (if re.contains y.ix then ((match y.g with | some (t, want) => (match fr.get t with | some (.bool b) => b == !want | some (.tup []) => true | _ => false) | none => false) || recheckB fr E y) else true) && rechecksB fr E re acc
theorem rechecksB_ok {fr : Fr} {E : EH} {re : List Nat} : ∀ {acc : List AOper}, rechecksB fr E re acc = true → rechecks fr E.hp re acc
  | [], _ => trivial
  | y :: acc, h => by
    simp only [rechecksB, Bool.and_eq_true] at h
    refine ⟨?_, rechecksB_ok h.2⟩
    have h1 := h.1
    split at h1
    · rename_i hc
      rw [if_pos hc]
      rw [Bool.or_eq_true] at h1
      refine h1.imp (fun h1 => ?_) recheckB_ok
      split at h1
      · rename_i t want hg
        rw [hg]
        split at h1
        · rename_i b hb
          left
          rw [hb, show b = !want by simpa using h1]
        · rename_i hb; right; exact hb
        · cases h1
      · cases h1
    · rename_i hc; rw [if_neg hc]; trivial
def dE (C : CE) : List AOper → List AOper → Fr → EH → Option (Sum (Fr × EH) (Fr × V × EH))
  | _, [], fr, E => some (.inl (fr, E))
  | acc, o :: r, fr, E => match goes fr o with
    | some true => (match opE C fr E o with
      | some (.inl (fr', E')) => if o.re.isEmpty || rechecksB fr' E' o.re acc then dE C (o :: acc) r fr' E' else none
      | some (.inr (v, E')) => some (.inr (fr, v, E'))
      | none => none)
    | some false => dE C (o :: acc) r (fr.put o.dst (.tup [])) E
    | none => none
theorem dE_hp {C : CE} {D : CallT} (hC : CEok C D) {X : Fr → V → Heap → Prop} {K : Fr → Heap → Prop} : ∀ (ops acc : List AOper) (fr : Fr) (E : EH) (r : Sum (Fr × EH) (Fr × V × EH)), dE C acc ops fr E = some r →
    (match r with | .inl (fr', E') => K fr' E'.hp | .inr (fr', v, E') => X fr' v E'.hp) → evD D X K acc ops fr E.hp
  | [], acc, fr, E, r, h, k => by simp only [dE] at h; cases h; exact k
  | o :: l, acc, fr, E, r, h, k => by
    have main : (match opE C fr E o with | some (.inl (fr', E')) => if (o.re.isEmpty || rechecksB fr' E' o.re acc) = true then dE C (o :: acc) l fr' E' else none | some (.inr (v, E')) => some (.inr (fr, v, E')) | none => none) = some r →
        evOp D fr E.hp o (fun fr' H' => (o.re = [] ∨ rechecks fr' H' o.re acc) ∧ evD D X K (o :: acc) l fr' H') (X fr) := fun h => by
      split at h
      · rename_i fr' E' he
        split at h
        · rename_i hc
          refine opE_hp hC he ⟨?_, dE_hp hC l (o :: acc) fr' E' r h k⟩
          rw [Bool.or_eq_true] at hc
          exact hc.imp (fun h => List.isEmpty_iff.1 h) rechecksB_ok
        · cases h
      · rename_i v E' he
        cases h
        exact opE_hp hC he k
      · cases h
    simp only [dE, goes] at h
    simp only [evD]
    cases hg : o.g with
    | none => rw [hg] at h; exact main h
    | some tw =>
      obtain ⟨t, want⟩ := tw
      rw [hg] at h
      dsimp only at h ⊢
      cases hv : fr.get t with
      | none => rw [hv] at h; cases h
      | some v =>
        rw [hv] at h
        cases v <;> (try (cases h; done))
        case bool b =>
          dsimp only at h ⊢
          unfold gif
          cases hb : b == want with
          | true => rw [hb] at h; rw [if_pos rfl]; exact main h
          | false => rw [hb] at h; rw [if_neg (by decide)]; exact dE_hp hC l _ _ E r h k
        case tup l' =>
          cases l' with
          | nil => exact dE_hp hC l _ _ E r h k
          | cons a b => cases h
abbrev RE := Cd → Fr → EH → Option (Ex × Fr × EH)
def recBE (R : RE) (F : AFun) (d : Nat) (c : Cd) (x : V) (l : List V) (E : EH) : Option EH :=
  if l.length = F.np then match R c ⟨(d, x) :: frame0 0 l, []⟩ E with
    | some (.normal, fr, E') => if fr.ds.isEmpty && (resOf fr E'.hp F.res).isSome then some E' else none
    | some (.ret, fr, E') => if fr.ds.isEmpty && (resOf fr E'.hp F.res).isSome then some E' else none
    | _ => none
  else none
/-- A deferred call that defers nothing itself. -/
def callN (P : Prog) (R : RE) (g : Nat) (l : List V) (E : EH) : Option EH := match P g with
  | some F => if l.length = F.np && F.nodef then (match R F.body ⟨frame0 0 l, []⟩ E with
    | some (.normal, fr, E') => if fr.ds.isEmpty && (resOf fr E'.hp F.res).isSome then some E' else none
    | some (.ret, fr, E') => if fr.ds.isEmpty && (resOf fr E'.hp F.res).isSome then some E' else none
    | _ => none) else none
  | none => none
def dsE (P : Prog) (R : RE) : List (Nat × List V) → EH → Option EH
  | [], E => some E
  | (g, l) :: r, E => match recOf P g with
    | some (F, d, c) => (recBE R F d c .nilifc l E).bind (dsE P R r)
    | none => (callN P R g l E).bind (dsE P R r)
def panE (P : Prog) (R : RE) (v : V) : List (Nat × List V) → EH → Option (Bool × EH)
  | [], E => some (false, E)
  | (g, l) :: r, E => match recOf P g with
    | some (F, d, c) => ((recBE R F d c v l E).bind (dsE P R r)).map fun E => (true, E)
    | none => none
def toldE (fr : Fr) (F : AFun) (E : EH) : Option (Out × EH) := (resOf fr E.hp F.res).map fun vs => (.ret (bundle vs), E)
def callE (P : Prog) (R : RE) : CE := fun g l E => match P g with
  | none => none
  | some F => if l.length = F.np then match R F.body ⟨frame0 0 l, []⟩ E with
    | some (.normal, fr, E') => if !F.nodef || fr.ds.isEmpty then (dsE P R fr.ds E').bind (toldE fr F) else none
    | some (.ret, fr, E') => if !F.nodef || fr.ds.isEmpty then (dsE P R fr.ds E').bind (toldE fr F) else none
    | some (.pan v, fr, E') => if !F.nodef || fr.ds.isEmpty then (match panE P R v fr.ds E' with
      | some (true, E2) => toldE fr F E2
      | some (false, E2) => some (.pan v, E2)
      | none => none) else none
    | _ => none
  else none
def srtE (x : Option V) (E : EH) : Option EH := match x with
  | some (.sl _ 0 _ _) => some E
  | some (.sl (some (b, o)) 1 _ 1) => (match E.t.get b with
    | .cells l true => (match l[o]? with
      | some (.int .i64 _) => some E
      | _ => none)
    | _ => none)
  | _ => none
def atE (E : EH) (b y st : Nat) : Option (List (Nat × V)) := match E.t.get b with
  | .lp y' tm st' none => if y' = y ∧ st' = st then some tm else none
  | _ => none
theorem atE_hp {E : EH} {b y st : Nat} {tm : List (Nat × V)} {K : List (Nat × V) → Prop} (h : atE E b y st = some tm) (k : K tm) : rndAt E.hp b y st K := by
  unfold atE at h
  unfold rndAt
  split at h
  · rename_i y' tm' st' hg
    split at h
    · rename_i hc
      cases h
      have : E.hp.get b = .lp y' tm st' none := hg
      rw [this]
      exact ⟨hc.1, hc.2, k⟩
    · cases h
  · cases h
/-- How a round is left. -/
def backE : Ex → Option (Nat × Option (Option Nat))
  | .normal => some (0, none)
  | .ret => some (2, some none)
  | .exit id => some (2, some (some id))
  | _ => none
def evC (P : Prog) : Nat → RE
  | 0 => fun _ _ _ => none
  | n + 1 => fun c fr E => match c with
    | .skip => some (.normal, fr, E)
    | .reg false live ops => (match opsE (callE P (evC P n)) ops fr E with
      | some (.inl (fr', E')) => some (.normal, fr'.keep live, E')
      | some (.inr (fr', v, E')) => some (.pan v, fr', E')
      | none => none)
    | .reg true live ops => (match dE (callE P (evC P n)) [] ops fr E with
      | some (.inl (fr', E')) => some (.normal, fr'.keep live, E')
      | some (.inr (fr', v, E')) => some (.pan v, ⟨[], fr'.ds⟩, E')
      | none => none)
    | .seq a b => (match evC P n a fr E with
      | some (.normal, fr', E') => evC P n b fr' E'
      | r => r)
    | .cond c x y => (match opd fr c with
      | some (.bool true) => evC P n x fr E
      | some (.bool false) => evC P n y fr E
      | _ => none)
    | .block id c => (match evC P n c fr E with
      | some (.exit i, fr', E') => if i = id then some (.normal, fr', E') else some (.exit i, fr', E')
      | r => r)
    | .loop live c => (match evC P n c (fr.keep live) E with
      | some (.normal, fr', E') => evC P n (.loop live c) fr' E'
      | r => r)
    | .exit id => some (.exit id, fr, E)
    | .ret => some (.ret, fr, E)
    | .scope c => (match evC P n c fr E with
      | some (.goto _, _) => none
      | r => r)
    | .goto l => some (.goto l, fr, E)
    | .orc => (srtE (fr.get 0) E).map fun E' => (.ret, fr, E')
    | .rangeF f y sh live => (match opd fr f with
      | some (.fn g first caps) => (match E.new .dfb with
        | some E1 => (match E1.new (.lp y (keepL fr.tm live) 0 none) with
          | some E2 => (match callE P (evC P n) g (first ++ [.yld y (E.next + 1)] ++ caps) E2 with
            | some (.ret _, E3) => (match E3.t.get (E.next + 1) with
              | .lp y' tm st pend => if y' = y ∧ st ≠ 1 then (E3.put (E.next + 1) (.lp y tm 3 pend)).map fun E4 => (jmpE pend, fr.mark sh E.next, E4) else none
              | _ => none)
            | some (.pan v, E3) => some (.pan v, fr.mark sh E.next, E3)
            | none => none)
          | none => none)
        | none => none)
      | _ => none)
    | .shut => (match fr.get 0 with
      | some (.ptr (some (b, 0))) => (match E.t.get b with
        | .dfb => (E.put b .dead).map fun E' => (.ret, ⟨[], []⟩, E')
        | _ => none)
      | _ => none)
    | .rnd y ps a b => (match fr.get 0 with
      | some (.yld y' i) => if y' = y then (match atE E i y 0 with
        | some tm => (match evC P n a ⟨layT fr ps 1 tm, []⟩ E with
          | some (.normal, fr1, E1) => (match atE E1 i y 0 with
            | some tm1 => (match E1.put i (.lp y tm1 1 none) with
              | some E2 => (match evC P n b fr1 E2 with
                | some (e, _, E3) => (match atE E3 i y 1, backE e with
                  | some tm2, some (st, pend) => (E3.put i (.lp y tm2 st pend)).map fun E4 => (.ret, ⟨[(0, .bool pend.isNone)], []⟩, E4)
                  | _, _ => none)
                | none => none)
              | none => none)
            | none => none)
          | _ => none)
        | none => none) else none
      | _ => none)
    | _ => none
theorem recBE_hp {R : RE} {D : CallT} (hR : ∀ c fr E e fr' E', R c fr E = some (e, fr', E') → ∀ Q : Post, Q e fr' E'.hp → wpC D c Q fr E.hp) {F : AFun} {d : Nat} {c : Cd} {x : V} {l : List V} {E E' : EH} {K : Heap → Prop} (h : recBE R F d c x l E = some E') (k : K E'.hp) : recB D F d c x l E.hp K := by
  unfold recBE at h
  split at h
  · rename_i hl
    refine ⟨hl, ?_⟩
    split at h
    · rename_i fr E1 he
      split at h
      · rename_i hc
        cases h
        rw [Bool.and_eq_true] at hc
        exact hR _ _ _ _ _ _ he _ ⟨List.isEmpty_iff.1 hc.1, Option.isSome_iff_exists.1 hc.2, k⟩
      · cases h
    · rename_i fr E1 he
      split at h
      · rename_i hc
        cases h
        rw [Bool.and_eq_true] at hc
        exact hR _ _ _ _ _ _ he _ ⟨List.isEmpty_iff.1 hc.1, Option.isSome_iff_exists.1 hc.2, k⟩
      · cases h
    · cases h
  · cases h
theorem callN_hp {P : Prog} {R : RE} (hR : ∀ c fr E e fr' E', R c fr E = some (e, fr', E') → ∀ Q : Post, Q e fr' E'.hp → wpC (Call P) c Q fr E.hp) {K : Heap → Prop} {g : Nat} {l : List V} {E E' : EH} (h : callN P R g l E = some E') (k : K E'.hp) :
    ndOf P g = true ∧ Call P g l E.hp fun out H' => match out with | .ret _ => K H' | .pan _ => False := by
  unfold callN at h
  split at h
  case h_2 => cases h
  rename_i F hF
  split at h
  case isFalse => cases h
  rename_i hc
  simp only [Bool.and_eq_true, decide_eq_true_eq] at hc
  refine ⟨by simp [ndOf, hF, hc.2], call_body hF ⟨hc.1, ?_⟩⟩
  have fin : ∀ (fr : Fr) (E1 : EH), (if fr.ds.isEmpty && (resOf fr E1.hp F.res).isSome then some E1 else none) = some E' → (F.nodef = true → fr.ds = []) ∧ evDs P (Call P) (resK fr F.res fun out H' => match out with | .ret _ => K H' | .pan _ => False) fr.ds E1.hp := fun fr E1 h => by
    split at h
    · rename_i hq
      cases h
      rw [Bool.and_eq_true] at hq
      have hd := List.isEmpty_iff.1 hq.1
      obtain ⟨vs, hv⟩ := Option.isSome_iff_exists.1 hq.2
      refine ⟨fun _ => hd, ?_⟩
      rw [hd]
      simp only [evDs, resK, hv]
      exact k
    · cases h
  split at h
  · rename_i fr E1 he; exact hR _ _ _ _ _ _ he _ (fin fr E1 h)
  · rename_i fr E1 he; exact hR _ _ _ _ _ _ he _ (fin fr E1 h)
  · cases h
theorem dsE_hp {P : Prog} {R : RE} (hR : ∀ c fr E e fr' E', R c fr E = some (e, fr', E') → ∀ Q : Post, Q e fr' E'.hp → wpC (Call P) c Q fr E.hp) {K : Heap → Prop} : ∀ {ds : List (Nat × List V)} {E E' : EH}, dsE P R ds E = some E' → K E'.hp → evDs P (Call P) K ds E.hp
  | [], E, E', h, k => by cases h; exact k
  | (g, l) :: r, E, E', h, k => by
    simp only [dsE] at h
    simp only [evDs]
    split at h
    · rename_i F d c hr
      rw [hr]
      obtain ⟨E1, h1, h2⟩ := Option.bind_eq_some_iff.1 h
      exact recBE_hp hR h1 (dsE_hp hR h2 k)
    · rename_i hr
      rw [hr]
      dsimp only
      obtain ⟨E1, h1, h2⟩ := Option.bind_eq_some_iff.1 h
      exact callN_hp hR h1 (dsE_hp hR h2 k)
theorem toldE_hp {fr : Fr} {F : AFun} {E E' : EH} {o : Out} {Q : Out → Heap → Prop} (h : toldE fr F E = some (o, E')) (k : Q o E'.hp) : resK fr F.res Q E.hp := by
  unfold toldE at h
  obtain ⟨vs, h1, h2⟩ := Option.map_eq_some_iff.1 h
  cases h2
  unfold resK
  rw [h1]
  exact k
theorem callE_hp {P : Prog} {R : RE} (hR : ∀ c fr E e fr' E', R c fr E = some (e, fr', E') → ∀ Q : Post, Q e fr' E'.hp → wpC (Call P) c Q fr E.hp) : CEok (callE P R) (Call P) := by
  intro g l E o E' h Q k
  unfold callE at h
  split at h
  · cases h
  · rename_i F hF
    obtain ⟨np, nt, nodef, res, cd⟩ := F
    dsimp only at h
    split at h
    · rename_i hl
      have nd : ∀ fr : Fr, (!nodef || fr.ds.isEmpty) = true → nodef = true → fr.ds = [] := fun fr hc hn => by
        rw [hn] at hc
        exact List.isEmpty_iff.1 (by simpa using hc)
      refine call_body hF ⟨hl, ?_⟩
      split at h
      · rename_i fr E1 he
        split at h
        · rename_i hc
          obtain ⟨E2, h1, h2⟩ := Option.bind_eq_some_iff.1 h
          exact hR _ _ _ _ _ _ he _ ⟨nd fr hc, dsE_hp (K := resK fr res Q) hR h1 (toldE_hp h2 k)⟩
        · cases h
      · rename_i fr E1 he
        split at h
        · rename_i hc
          obtain ⟨E2, h1, h2⟩ := Option.bind_eq_some_iff.1 h
          exact hR _ _ _ _ _ _ he _ ⟨nd fr hc, dsE_hp (K := resK fr res Q) hR h1 (toldE_hp h2 k)⟩
        · cases h
      · rename_i v fr E1 he
        split at h
        · rename_i hc
          refine hR _ _ _ _ _ _ he _ ⟨nd fr hc, ?_⟩
          cases hds : fr.ds with
          | nil =>
            rw [hds] at h
            simp only [panE] at h
            cases h
            exact k
          | cons gl r =>
            obtain ⟨g', l'⟩ := gl
            rw [hds] at h
            simp only [panE] at h
            simp only [evP]
            split at h
            · rename_i E2 hb
              split at hb
              · rename_i F' d c hr
                rw [hr]
                obtain ⟨E3, h1, h2⟩ := Option.map_eq_some_iff.1 hb
                cases h2
                obtain ⟨E4, h3, h4⟩ := Option.bind_eq_some_iff.1 h1
                exact recBE_hp hR h3 (dsE_hp (K := resK fr res Q) hR h4 (toldE_hp h k))
              · cases hb
            · rename_i E2 hb
              split at hb
              · obtain ⟨E3, h1, h2⟩ := Option.map_eq_some_iff.1 hb
                cases h2
              · cases hb
            · cases h
        · cases h
      · cases h
    · cases h
theorem srtE_hp {x : Option V} {E E' : EH} {K : Heap → Prop} (h : srtE x E = some E') (k : K E'.hp) : srt x E.hp K := by
  unfold srtE at h
  split at h
  · cases h; exact ⟨_, _, _, _, rfl, .inl ⟨rfl, k⟩⟩
  · rename_i b o cap
    split at h
    · rename_i l hl
      split at h
      · rename_i n hn
        cases h
        have hol := (List.getElem?_eq_some_iff.1 hn).1
        refine ⟨_, _, _, _, rfl, .inr ⟨b, o, l, [n], by omega, rfl, rfl, hl, rfl, by simp, by omega, fun i m hm => ?_, ?_⟩⟩
        · cases i with
          | zero => simp at hm; subst hm; exact hn
          | succ i => simp at hm
        · have e : over l o (([n] : List Int).mergeSort (fun x y => decide (x ≤ y)) |>.map (V.int .i64)) = l := by
            rw [List.mergeSort_singleton]
            show over l o [V.int .i64 n] = l
            unfold over
            refine List.ext_getElem? fun i => ?_
            rw [List.append_assoc]
            by_cases h1 : i < o
            · rw [List.getElem?_append_left (by simp; omega), List.getElem?_take, if_pos h1]
            · rw [List.getElem?_append_right (by simp; omega)]
              simp only [List.length_take, List.singleton_append, List.length_cons, List.length_nil]
              rw [Nat.min_eq_left (by omega)]
              rcases Nat.lt_or_ge o i with h2 | h2
              · obtain ⟨j, rfl⟩ := Nat.exists_eq_add_of_lt h2
                rw [show o + j + 1 - o = j + 1 by omega, List.getElem?_cons_succ, List.getElem?_drop]
                congr 1; omega
              · obtain rfl : i = o := by omega
                rw [Nat.sub_self, List.getElem?_cons_zero, hn]
          rw [e]
          have : E.hp.put b (.cells l true) = E.hp := by
            unfold Heap.put
            have hg : E.hp.get = fun x => if x = b then Obj.cells l true else E.hp.get x := by
              funext x
              by_cases hx : x = b
              · rw [if_pos hx, hx]; exact hl
              · rw [if_neg hx]
            rw [← hg]
          rw [this]
          exact k
      · cases h
    · cases h
  · cases h
/-- **What the evaluator says holds.** -/
theorem evC_hp {P : Prog} : ∀ (n : Nat) (c : Cd) (fr : Fr) (E : EH) (e : Ex) (fr' : Fr) (E' : EH), evC P n c fr E = some (e, fr', E') → ∀ Q : Post, Q e fr' E'.hp → wpC (Call P) c Q fr E.hp
  | 0, _, _, _, _, _, _, h, _, _ => by cases h
  | n + 1, c, fr, E, e, fr', E', h, Q, k => by
    have ih := evC_hp (P := P) n
    have ihC := callE_hp (P := P) (R := evC P n) ih
    cases c with
    | skip => simp only [evC] at h; cases h; exact k
    | reg b live ops =>
      cases b with
      | false =>
        simp only [evC] at h
        simp only [wpC]
        split at h
        · rename_i fr1 E1 he; cases h; exact opsE_hp ihC _ _ _ _ he k
        · rename_i fr1 v E1 he; cases h; exact opsE_hp ihC _ _ _ _ he k
        · cases h
      | true =>
        simp only [evC] at h
        simp only [wpC]
        split at h
        · rename_i fr1 E1 he; cases h; exact dE_hp ihC _ _ _ _ _ he k
        · rename_i fr1 v E1 he; cases h; exact dE_hp ihC _ _ _ _ _ he k
        · cases h
    | seq a b =>
      simp only [evC] at h
      simp only [wpC]
      split at h
      · rename_i fr1 E1 he
        exact ih _ _ _ _ _ _ he _ (ih _ _ _ _ _ _ h _ k)
      · rename_i hne
        refine ih _ _ _ _ _ _ h _ ?_
        cases e with
        | normal => exact absurd h (hne _ _)
        | exit i => exact k
        | ret => exact k
        | pan v => exact k
        | goto l => exact k
    | cond q x y =>
      simp only [evC] at h
      simp only [wpC]
      split at h
      · rename_i hq; rw [hq]; dsimp only; unfold gif; rw [if_pos rfl]; exact ih _ _ _ _ _ _ h _ k
      · rename_i hq; rw [hq]; dsimp only; unfold gif; rw [if_neg (by decide)]; exact ih _ _ _ _ _ _ h _ k
      · cases h
    | block id c =>
      simp only [evC] at h
      simp only [wpC]
      split at h
      · rename_i i fr1 E1 he
        split at h
        · rename_i hi
          cases h
          refine ih _ _ _ _ _ _ he _ ?_
          dsimp only
          rw [if_pos hi]; exact k
        · rename_i hi
          cases h
          refine ih _ _ _ _ _ _ he _ ?_
          dsimp only
          rw [if_neg hi]; exact k
      · rename_i hne
        refine ih _ _ _ _ _ _ h _ ?_
        cases e with
        | normal => exact k
        | exit i => exact absurd h (hne _ _ _)
        | ret => exact k
        | pan v => exact k
        | goto l => exact k
    | loop live c =>
      simp only [evC] at h
      simp only [wpC]
      intro I hI
      refine hI _ _ ?_
      split at h
      · rename_i fr1 E1 he
        have h2 := ih _ _ _ _ _ _ h Q k
        simp only [wpC] at h2
        exact ih _ _ _ _ _ _ he _ (h2 I hI)
      · rename_i hne
        refine ih _ _ _ _ _ _ h _ ?_
        cases e with
        | normal => exact absurd h (hne _ _)
        | exit i => exact k
        | ret => exact k
        | pan v => exact k
        | goto l => exact k
    | exit id => simp only [evC] at h; cases h; exact k
    | ret => simp only [evC] at h; cases h; exact k
    | scope c =>
      simp only [evC] at h
      simp only [wpC]
      split at h
      · cases h
      · rename_i hne
        refine ih _ _ _ _ _ _ h _ ?_
        cases e with
        | normal => exact k
        | exit i => exact k
        | ret => exact k
        | pan v => exact k
        | goto l => exact absurd h (hne _ _)
    | gscope a l live b => simp only [evC] at h; cases h
    | goto l => simp only [evC] at h; cases h; exact k
    | recov d c => simp only [evC] at h; cases h
    | shut =>
      simp only [evC] at h
      simp only [wpC]
      split at h
      · rename_i b hb
        rw [hb]
        split at h
        · rename_i hg
          obtain ⟨E1, h1, h2⟩ := Option.map_eq_some_iff.1 h
          cases h2
          have hg : E.hp.get b = .dfb := hg
          simp only [shutAt, hg]
          rw [← EH.put_hp h1]
          exact k
        · cases h
      · cases h
    | rangeF f y sh live =>
      simp only [evC] at h
      simp only [wpC]
      split at h
      · rename_i g first caps hf
        rw [hf]
        simp only [rngFn]
        split at h
        · rename_i E1 h1
          split at h
          · rename_i E2 h2
            have e2 : E2.hp = (E.hp.new .dfb).new (.lp y (keepL fr.tm live) 0 none) := by rw [EH.new_hp h2, EH.new_hp h1]
            rw [← e2]
            split at h
            · rename_i v E3 h3
              refine ihC _ _ _ _ _ h3 _ ?_
              dsimp only
              unfold rngOut
              split at h
              · rename_i y' tm st pend hg
                split at h
                · rename_i hc
                  obtain ⟨E4, h4, h5⟩ := Option.map_eq_some_iff.1 h
                  cases h5
                  have hg : E3.hp.get (E.hp.next + 1) = .lp y' tm st pend := hg
                  rw [hg]
                  rw [EH.put_hp h4] at k
                  exact ⟨hc.1, hc.2, k⟩
                · cases h
              · cases h
            · rename_i v E3 h3
              cases h
              exact ihC _ _ _ _ _ h3 _ k
            · cases h
          · cases h
        · cases h
      · cases h
    | rnd y ps a b =>
      simp only [evC] at h
      simp only [wpC]
      split at h
      · rename_i y' i hx
        split at h
        · rename_i hy
          rw [hx]
          refine ⟨hy, ?_⟩
          split at h
          · rename_i tm h1
            refine atE_hp h1 ?_
            split at h
            · rename_i fr1 E1 h2
              refine ih _ _ _ _ _ _ h2 _ ?_
              split at h
              · rename_i tm1 h3
                refine atE_hp h3 ?_
                split at h
                · rename_i E2 h4
                  rw [← EH.put_hp h4]
                  split at h
                  · rename_i e1 fr2 E3 h5
                    refine ih _ _ _ _ _ _ h5 _ ?_
                    split at h
                    · rename_i tm2 st pend h6 h7
                      refine atE_hp h6 ?_
                      obtain ⟨E4, h8, h9⟩ := Option.map_eq_some_iff.1 h
                      cases h9
                      rw [EH.put_hp h8] at k
                      cases e1 <;> cases h7 <;> exact k
                    · cases h
                  · cases h
                · cases h
              · cases h
            · cases h
          · cases h
        · cases h
      · cases h
    | orc =>
      simp only [evC] at h
      simp only [wpC]
      obtain ⟨E1, k1, k2⟩ := Option.map_eq_some_iff.1 h
      cases k2
      exact srtE_hp k1 k
/-- A call without arguments, from the empty heap. -/
def E0 : EH := ⟨0, .leaf⟩
def runB (P : Prog) (n g : Nat) : Option V := match callE P (evC P n) g [] E0 with
  | some (.ret v, _) => some v
  | _ => none
theorem run_call {P : Prog} {n g : Nat} {v : V} (h : runB P n g = some v) : Call P g [] E0.hp fun o _ => o = .ret v := by
  unfold runB at h
  split at h
  · rename_i v' E' he
    cases h
    exact callE_hp (fun c fr E e fr' E' => evC_hp n c fr E e fr' E') g [] E0 _ _ he _ rfl
  · cases h
end Go.Ab
namespace Go.Ab
-- burinlaw17_wakes: 201, parameters ; loops 
/-- burin/burinlaw17.wakes -/
def burinlaw17_wakes : AFun := ⟨0, 59, true, [.t 0],
  .seq (.reg false [] [⟨some 0, .mv (.c (.bool false)), none, 0, []⟩])
  (.seq (.reg false [1, 2] [⟨some 10, .build [.int .i64 0, .int .i64 0, .int .i64 0, .sl none 0 0 0, .sl none 0 0 0, .bool false, .sl none 0 0 0] [(1, 1, (.c (.int .i64 7)))], none, 0, []⟩,
    ⟨some 11, .bslice 7 [.int .i64 0, .int .i64 0, .int .i64 0, .sl none 0 0 0, .sl none 0 0 0, .bool false, .sl none 0 0 0] 1 [(0, (.t 10))], none, 0, []⟩,
    ⟨some 12, .call (.f 200) [(.t 11), (.c (.bool false))], none, 0, []⟩,
    ⟨some 9, .mv (.t 12), none, 0, []⟩,
    ⟨some 13, .ext 0 (.t 9), none, 0, []⟩,
    ⟨some 14, .ext 1 (.t 9), none, 0, []⟩,
    ⟨some 1, .mv (.t 13), none, 0, []⟩,
    ⟨some 2, .mv (.t 14), none, 0, []⟩])
  (.seq (.reg false [1, 2, 3, 4, 5] [⟨some 16, .bslice 1 [.int .u8 0] 12 [(0, (.c (.int .u8 66))), (1, (.c (.int .u8 85))), (2, (.c (.int .u8 82))), (3, (.c (.int .u8 1))), (4, (.c (.int .u8 1))), (5, (.c (.int .u8 0))), (6, (.c (.int .u8 0))), (7, (.c (.int .u8 7))), (8, (.c (.int .u8 0))), (9, (.c (.int .u8 0))), (10, (.c (.int .u8 0))), (11, (.c (.int .u8 0)))], none, 0, []⟩,
    ⟨some 17, .call (.f 199) [(.t 16)], none, 0, []⟩,
    ⟨some 15, .mv (.t 17), none, 0, []⟩,
    ⟨some 18, .ext 0 (.t 15), none, 0, []⟩,
    ⟨some 19, .ext 1 (.t 15), none, 0, []⟩,
    ⟨some 20, .ext 2 (.t 15), none, 0, []⟩,
    ⟨some 3, .mv (.t 18), none, 0, []⟩,
    ⟨some 4, .mv (.t 19), none, 0, []⟩,
    ⟨some 5, .mv (.t 20), none, 0, []⟩])
  (.seq (.reg false [1, 2, 3, 4, 5, 8] [⟨some 22, .bslice 1 [.int .u8 0] 1 [(0, (.c (.int .u8 66)))], none, 0, []⟩,
    ⟨some 23, .call (.f 199) [(.t 22)], none, 0, []⟩,
    ⟨some 21, .mv (.t 23), none, 0, []⟩,
    ⟨some 24, .ext 0 (.t 21), none, 0, []⟩,
    ⟨some 25, .ext 1 (.t 21), none, 0, []⟩,
    ⟨some 26, .ext 2 (.t 21), none, 0, []⟩,
    ⟨some 6, .mv (.t 24), none, 0, []⟩,
    ⟨some 7, .mv (.t 25), none, 0, []⟩,
    ⟨some 8, .mv (.t 26), none, 0, []⟩])
  (.seq (.reg false [0] [⟨some 27, .mv (.t 2), none, 0, []⟩,
    ⟨some 28, .bin .eql .num (.t 27) (.c (.int .i64 0)), none, 0, []⟩,
    ⟨some 29, .mv (.t 28), none, 0, []⟩,
    ⟨some 30, .mv (.t 1), some (29, true), 0, []⟩,
    ⟨some 31, .bslice 1 [.int .u8 0] 12 [(0, (.c (.int .u8 66))), (1, (.c (.int .u8 85))), (2, (.c (.int .u8 82))), (3, (.c (.int .u8 1))), (4, (.c (.int .u8 0))), (5, (.c (.int .u8 0))), (6, (.c (.int .u8 0))), (7, (.c (.int .u8 7))), (8, (.c (.int .u8 0))), (9, (.c (.int .u8 0))), (10, (.c (.int .u8 0))), (11, (.c (.int .u8 0)))], some (29, true), 0, []⟩,
    ⟨some 32, .call (.f 26) [(.t 30), (.t 31)], some (29, true), 0, []⟩,
    ⟨some 33, .pick (.t 29) (.t 32) (.c (.bool false)), none, 0, []⟩,
    ⟨some 34, .mv (.t 33), none, 0, []⟩,
    ⟨some 35, .mv (.t 5), some (34, true), 0, []⟩,
    ⟨some 36, .bin .eql .num (.t 35) (.c (.int .i64 0)), some (34, true), 0, []⟩,
    ⟨some 37, .pick (.t 34) (.t 36) (.c (.bool false)), none, 0, []⟩,
    ⟨some 38, .mv (.t 37), none, 0, []⟩,
    ⟨some 39, .mv (.t 3), some (38, true), 0, []⟩,
    ⟨some 40, .len none (.t 39), some (38, true), 0, []⟩,
    ⟨some 41, .bin .eql .num (.t 40) (.c (.int .i64 0)), some (38, true), 0, []⟩,
    ⟨some 42, .pick (.t 38) (.t 41) (.c (.bool false)), none, 0, []⟩,
    ⟨some 43, .mv (.t 42), none, 0, []⟩,
    ⟨some 44, .mv (.t 4), some (43, true), 0, []⟩,
    ⟨some 45, .len none (.t 44), some (43, true), 0, []⟩,
    ⟨some 46, .bin .eql .num (.t 45) (.c (.int .i64 1)), some (43, true), 0, []⟩,
    ⟨some 47, .pick (.t 43) (.t 46) (.c (.bool false)), none, 0, []⟩,
    ⟨some 48, .mv (.t 47), none, 0, []⟩,
    ⟨some 49, .mv (.t 4), some (48, true), 0, []⟩,
    ⟨some 50, .iad none 2 (.t 49) (.c (.int .i64 0)), some (48, true), 0, []⟩,
    ⟨some 51, .fad 0 (.t 50), some (48, true), 0, []⟩,
    ⟨some 52, .load none (.t 51), some (48, true), 0, []⟩,
    ⟨some 53, .bin .eql .num (.t 52) (.c (.int .i64 0)), some (48, true), 0, []⟩,
    ⟨some 54, .pick (.t 48) (.t 53) (.c (.bool false)), none, 0, []⟩,
    ⟨some 55, .mv (.t 54), none, 0, []⟩,
    ⟨some 56, .mv (.t 8), some (55, true), 0, []⟩,
    ⟨some 57, .bin .eql .num (.t 56) (.c (.int .i64 160)), some (55, true), 0, []⟩,
    ⟨some 58, .pick (.t 55) (.t 57) (.c (.bool false)), none, 0, []⟩,
    ⟨some 0, .mv (.t 58), none, 0, []⟩])
  (.ret)))))⟩

end Go.Ab
