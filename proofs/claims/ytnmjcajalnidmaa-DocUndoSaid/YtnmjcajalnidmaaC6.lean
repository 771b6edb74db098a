/- Lists of maps and of bitmaps; a law's list of bitmaps read. Conditions: none. -/
import Derived.Test.YtnmjcajalnidmaaC5
import Derived.Test.YtnmjcajalnidmaaPL2x
set_option linter.all false
namespace Go.Ab
structure MR where
  m : Nat
  w : Nat
  h : Nat
  p : Nat → Nat → Bool
structure BR where
  v : V
  w : Nat
  h : Nat
  p : Nat → Nat → Bool
def MR.as (r : MR) : As := MapA r.m r.w r.h r.p
def BR.as (r : BR) : As := BmA r.v r.w r.h r.p
def MR.c (r : MR) : V := .ptr (some (r.m, 0))
def BR.cs (r : BR) : List V := [.int .i64 r.w, .int .i64 r.h, r.v]
def brCells (l : List BR) : List V := l.flatMap BR.cs
theorem brCells_len : ∀ l, (brCells l).length = l.length * 3
  | [] => rfl
  | o :: l => by rw [brCells, List.flatMap_cons, List.length_append, show (l.flatMap BR.cs).length = _ from brCells_len l]; simp [BR.cs]; omega
theorem brCells_at : ∀ {l : List BR} {i : Nat} (hi : i < l.length), ((brCells l).drop (i * 3)).take 3 = l[i].cs
  | o :: l, 0, _ => by simp [brCells, BR.cs]
  | o :: l, i + 1, hi => by
    have := brCells_at (l := l) (i := i) (by simpa using hi)
    rw [show (i + 1) * 3 = 3 + i * 3 by omega, ← List.drop_drop]
    simpa [brCells, BR.cs] using this
theorem brCells_set : ∀ {l : List BR} {i : Nat} (r : BR) (_ : i < l.length), over (brCells l) (i * 3) r.cs = brCells (l.set i r)
  | o :: l, 0, r, _ => by simp [brCells, BR.cs, over]
  | o :: l, i + 1, r, hi => by
    have := brCells_set (l := l) (i := i) r (by simpa using hi)
    rw [show (i + 1) * 3 = i * 3 + 3 by omega]
    simp only [over, brCells, List.flatMap_cons, List.set_cons_succ] at this ⊢
    rw [← this]
    simp [BR.cs]
theorem brCells_snoc (l : List BR) (r : BR) : brCells (l ++ [r]) = brCells l ++ r.cs := by simp [brCells]
theorem lset_self {α : Type} {L : List α} {A : α} {i : Nat} (e : L[i]? = some A) : L.set i A = L := by
  refine List.ext_getElem? fun k => ?_
  rw [List.getElem?_set]
  by_cases hk : i = k
  · subst hk; rw [if_pos rfl, e]; have := (List.getElem?_eq_some_iff.1 e).1; simp [this]
  · rw [if_neg hk]
/-- Maps and bitmaps, and the lists of them. -/
def StL (lv rv : V) (ML : List MR) (BL : List BR) (T : List As) : List As := Lst lv 1 ML.length (ML.map MR.c) :: Lst rv 3 BL.length (brCells BL) :: (ML.map MR.as ++ (BL.map BR.as ++ T))
theorem stM {lv rv : V} {ML : List MR} {BL : List BR} {T : List As} {i : Nat} (hi : i < ML.length) : (StL lv rv ML BL T)[2 + i]? = some (ML[i].as) := by
  unfold StL
  rw [show 2 + i = i + 1 + 1 by omega, List.getElem?_cons_succ, List.getElem?_cons_succ, List.getElem?_append_left (by simpa using hi)]
  simp [hi]
theorem stB {lv rv : V} {ML : List MR} {BL : List BR} {T : List As} {i : Nat} (hi : i < BL.length) : (StL lv rv ML BL T)[2 + ML.length + i]? = some (BL[i].as) := by
  unfold StL
  rw [show 2 + ML.length + i = ML.length + i + 1 + 1 by omega, List.getElem?_cons_succ, List.getElem?_cons_succ, List.getElem?_append_right (by simp), List.getElem?_append_left (by simpa using hi)]
  simp [hi]
theorem stM_set {lv rv : V} {ML : List MR} {BL : List BR} {T : List As} {i : Nat} (hi : i < ML.length) (r : MR) (hm : r.m = ML[i].m) : (StL lv rv ML BL T).set (2 + i) r.as = StL lv rv (ML.set i r) BL T := by
  unfold StL
  have e : (ML.set i r).map MR.c = ML.map MR.c := by
    rw [List.map_set]; exact lset_self (by rw [List.getElem?_map, List.getElem?_eq_getElem hi]; simp [MR.c, hm])
  rw [show 2 + i = i + 1 + 1 by omega, List.set_cons_succ, List.set_cons_succ, List.set_append_left _ _ (by simpa using hi), e, List.map_set, List.length_set]
theorem stB_set {lv rv : V} {ML : List MR} {BL : List BR} {T : List As} {i : Nat} (hi : i < BL.length) (r : BR) (hm : r.cs = BL[i].cs) : (StL lv rv ML BL T).set (2 + ML.length + i) r.as = StL lv rv ML (BL.set i r) T := by
  unfold StL
  rw [show 2 + ML.length + i = ML.length + i + 1 + 1 by omega, List.set_cons_succ, List.set_cons_succ, List.set_append_right _ _ (by simp), List.set_append_left _ _ (by simpa using hi), List.length_set, List.map_set]
  have e : brCells (BL.set i r) = brCells BL := by
    unfold brCells
    rw [List.flatMap_def, List.flatMap_def, List.map_set]
    congr 1
    refine List.ext_getElem? fun k => ?_
    rw [List.getElem?_set]
    by_cases hk : i = k
    · subst hk; simp [hi, hm]
    · rw [if_neg hk]
  rw [e]; simp
theorem mem_erase {L : List As} {A : As} {i j : Nat} (e : L[j]? = some A) (h : j ≠ i) : A ∈ L.eraseIdx i := by
  rw [List.mem_eraseIdx_iff_getElem?]; exact ⟨j, h, e⟩
/-- Elements of a law's list of bitmaps. -/
theorem bms_at {H : Heap} {b o c : Nat} {l : List BmO} (h : Arr H (.sl (some (b, o)) l.length c 3) 3 l.length (bmCells l)) {i : Nat} (hi : i < l.length) : rd H (some 3) b (o + i * 3) = some (.agg [.int .i64 l[i].w, .int .i64 l[i].h, l[i].v]) ∧ rd H none b (o + i * 3 + 2) = some l[i].v := by
  refine ⟨by rw [h.agg hi, bmCells_at hi]; rfl, ?_⟩
  rw [h.rdm hi (by omega)]
  have := bmCells_at hi
  rw [show (bmCells l)[i * 3 + 2]? = (((bmCells l).drop (i * 3)).take 3)[2]? by simp [List.getElem?_take, List.getElem?_drop], this]; rfl
end Go.Ab
/- The law's maps out of bitmaps. Conditions: none. -/
namespace Go.Ab
theorem perm_two (a b c d : As) (X Y T : List As) : (a :: b :: c :: d :: (X ++ (Y ++ T))).Perm (a :: c :: (X ++ [d] ++ (Y ++ [b] ++ T))) := by
  have e : X ++ [d] ++ (Y ++ [b] ++ T) = X ++ d :: (Y ++ b :: T) := by simp
  rw [e]
  refine List.Perm.cons a ((List.Perm.swap c b _).trans (List.Perm.cons c ((List.Perm.swap d b _).trans ?_)))
  refine (List.Perm.cons d ?_).trans List.perm_middle.symm
  rw [← List.append_assoc, ← List.append_assoc]
  exact List.perm_middle.symm
def MR.k (r : MR) : Nat × Nat × (Nat → Nat → Bool) := (r.w, r.h, r.p)
def BR.k (r : BR) : Nat × Nat × (Nat → Nat → Bool) := (r.w, r.h, r.p)
def Mt (ML : List MR) (BL : List BR) : Prop := BL.map BR.k = ML.map MR.k
theorem Mt.len {ML : List MR} {BL : List BR} (h : Mt ML BL) : BL.length = ML.length := by simpa using congrArg List.length h
theorem Mt.at {ML : List MR} {BL : List BR} (h : Mt ML BL) {i : Nat} (hi : i < ML.length) : ∃ h' : i < BL.length, BL[i].w = ML[i].w ∧ BL[i].h = ML[i].h ∧ BL[i].p = ML[i].p := by
  have hl := h.len
  have h2 := congrArg (·[i]?) h
  refine ⟨by omega, ?_⟩
  simp only [List.getElem?_map, List.getElem?_eq_getElem hi, List.getElem?_eq_getElem (show i < BL.length by omega), Option.map_some, Option.some.injEq, BR.k, MR.k, Prod.mk.injEq] at h2
  exact h2
theorem Mt.set {ML : List MR} {BL : List BR} (h : Mt ML BL) (i : Nat) {r : MR} {s : BR} (e : s.k = r.k) : Mt (ML.set i r) (BL.set i s) := by
  unfold Mt at *; rw [List.map_set, List.map_set, h, e]
section
variable {P : Prog} {H : Heap} {Q : Out → Heap → Prop}
structure MpS where
  i : Nat
  lv : V
  rv : V
  ML : List MR
  BL : List BR
def MpS.fr (v : V) (x : MpS) : Fr := ⟨[(0, v), (5, x.lv), (6, x.rv), (7, .int .i64 (x.i : Nat))], []⟩
structure MpS.ok (H0 : Heap) (n : Nat) (T : List As) (x : MpS) (H : Heap) : Prop where
  i : x.i ≤ n
  len : x.ML.length ≤ 4
  mt : Mt x.ML x.BL
  hs : Hs H (StL x.lv x.rv x.ML x.BL T)
theorem bas_st {lv rv : V} {ML : List MR} {BL : List BR} {T : List As} {A : As} (h : A ∈ T) : A ∈ StL lv rv ML BL T := by
  unfold StL
  simp [h]
theorem lst_of {v : V} {w h : Nat} {p : Nat → Nat → Bool} {H : Heap} {R : List As} {ws : List Nat} (hs : Hs H (Lst v 1 ws.length (u64s ws) :: R)) (e : Wds w h p = ws) (hd : 1 ≤ w ∧ 1 ≤ h ∧ w * h ≤ 1048576) : Hs H (BmA v w h p :: R) := by
  subst e; exact bmA_of hs hd
set_option maxHeartbeats 1000000 in
theorem maps_ct (hq : HasL2 P) (hr : HasRef2 P) (hx : HasL2x P) {H0 : Heap} {T : List As} {v : V} {l : List BmO} (hs : Hs H T) (hb : Bas H0 ∈ T) (hv : Arr H0 v 3 l.length (bmCells l)) (ho : ∀ o ∈ l, BmOk H0 o) (hl : l.length ≤ 140737488351232)
    (hQ : ∀ lv rv ML BL H', Mt ML BL → ML.length ≤ 4 → Hs H' (StL lv rv ML BL T) → Q (.ret (.tup [lv, rv, .bool true])) H') : Call P 100 [v] H Q := by
  refine call_of hx.h_burinlaw2_maps rfl ?_
  obtain ⟨a0, c0, e0, hvs⟩ := hv.shape
  simp -implicitDefEqProofs -dsimp (disch := omega) only [go_sem, Nat.reduceEqDiff, ↓reduceIte, Nat.reduceAdd, Nat.reduceMul, Nat.reduceSub, Nat.reduceLT, Nat.reduceLeDiff, Int.reduceLT, Int.reduceLE, Int.reduceEq, Int.reduceNeg, Int.reduceAdd, Int.reduceMul, Int.reduceSub, Int.reduceToNat, reduceCtorEq, dec_t, dec_f, ]
  have h0 : Hs H (StL (.sl none 0 0 0) (.sl none 0 0 0) [] [] T) := (hs.lst (Same.refl _ _) (own_nil _ 3) fun _ h => h.elim).lst (Same.refl _ _) (own_nil _ 1) fun _ h => h.elim
  refine loop_dec (σ := MpS) (fun x => l.length - x.i) (fun x => x.fr v) (MpS.ok H0 l.length T) (fun x H1 K ⟨hi, hl4, hm, h1⟩ hn hx' hrr => ?_) ⟨0, .sl none 0 0 0, .sl none 0 0 0, [], []⟩ H ⟨by simp, by simp, rfl, h0⟩
  obtain ⟨i, lv, rv, ML, BL⟩ := x
  dsimp only at hi hl4 hm h1 hn
  have hml := hm.len
  obtain ⟨la, lc, le, hlv⟩ := (h1.ownm (v := lv) (e := 1) (n := ML.length) (l := ML.map MR.c) (by simp [StL])).arr.shape
  by_cases hil : i < l.length
  · by_cases h4 : ML.length < 4
    · obtain ⟨b, o, c, rfl⟩ := hv.at0 (by omega)
      have hvb := fun {H'} (h : Hs H' (StL lv rv ML BL T)) => hv.same (h.bas (bas_st hb)) fun _ _ h => h
      obtain ⟨ra, rb⟩ := bms_at (hvb h1) hil
      have ko := ho l[i] (List.getElem_mem _)
      generalize hol : l[i] = ob at *
      obtain ⟨oa, oc, oe, hov⟩ := ko.arr.shape
      subst hlv
      have nxt : ∀ H', Hs H' (StL (.sl la ML.length lc le) rv ML BL T) → K .normal (MpS.fr (.sl (some (b, o)) l.length c 3) ⟨i + 1, .sl la ML.length lc le, rv, ML, BL⟩) H' := fun H' h' => hn ⟨i + 1, _, rv, ML, BL⟩ H' (by dsimp only; omega) ⟨by dsimp only; omega, hl4, hm, h'⟩
      unfold MpS.fr at nxt
      dsimp only at nxt
      by_cases hw : ob.ws.length ≤ 937
      · rw [hov] at ra rb
        simp -implicitDefEqProofs -dsimp (disch := omega) only [go_sem, Nat.reduceEqDiff, ↓reduceIte, Nat.reduceAdd, Nat.reduceMul, Nat.reduceSub, Nat.reduceLT, Nat.reduceLeDiff, Int.reduceLT, Int.reduceLE, Int.reduceEq, Int.reduceNeg, Int.reduceAdd, Int.reduceMul, Int.reduceSub, Int.reduceToNat, reduceCtorEq, dec_t, dec_f, burinlaw2_maps_l0, MpS.fr, Int.toNat_natCast, rb, ra]
        rw [← hov]
        rw [← hov] at ra
        refine lendB_ct hq.kit h1 (fun H' h' => ko.arr.same (h'.bas (bas_st hb)) fun _ _ h => h) (by omega) fun B H2 h2 => ?_
        have h3 := h2.alloc (l := [.int .i64 ob.w, .int .i64 ob.h, .sl (some (B, 0)) ob.ws.length (ob.ws.length + 7) 1])
        have r1 := (bms_at (hvb h3.tail.tail) hil).1
        rw [hol] at r1
        simp -implicitDefEqProofs -dsimp (disch := omega) only [go_sem, Nat.reduceEqDiff, ↓reduceIte, Nat.reduceAdd, Nat.reduceMul, Nat.reduceSub, Nat.reduceLT, Nat.reduceLeDiff, Int.reduceLT, Int.reduceLE, Int.reduceEq, Int.reduceNeg, Int.reduceAdd, Int.reduceMul, Int.reduceSub, Int.reduceToNat, reduceCtorEq, dec_t, dec_f, Int.toNat_natCast, r1]
        generalize H2.new _ = H3 at *
        generalize H2.next = b8 at *
        refine mayO hq ko h3 (List.mem_cons_of_mem _ (List.mem_cons_of_mem _ (bas_st hb))) fun may H4 hmay h4' => ?_
        have r8 := rd_bm h4' (List.mem_cons_self ..) 3 rfl
        simp -implicitDefEqProofs -dsimp (disch := omega) only [go_sem, Nat.reduceEqDiff, ↓reduceIte, Nat.reduceAdd, Nat.reduceMul, Nat.reduceSub, Nat.reduceLT, Nat.reduceLeDiff, Int.reduceLT, Int.reduceLE, Int.reduceEq, Int.reduceNeg, Int.reduceAdd, Int.reduceMul, Int.reduceSub, Int.reduceToNat, reduceCtorEq, dec_t, dec_f, r8]
        refine check_ct hq.bm h4' (lent_arr h4' (List.mem_cons_of_mem _ (List.mem_cons_self ..))) ko.lt ko.w ko.h fun ck H5 hck h5 _ => ?_
        obtain rfl : ck = may := by
          cases ck <;> cases may <;> simp_all
        have r8 := rd_bm h5 (List.mem_cons_self ..) 3 rfl
        by_cases hyes : mayB ob.w ob.h ob.ws
        rotate_left
        · obtain rfl : ck = false := by
            cases ck with
            | false => rfl
            | true => exact absurd (hck.1 rfl) hyes
          simp -implicitDefEqProofs -dsimp (disch := omega) only [go_sem, Nat.reduceEqDiff, ↓reduceIte, Nat.reduceAdd, Nat.reduceMul, Nat.reduceSub, Nat.reduceLT, Nat.reduceLeDiff, Int.reduceLT, Int.reduceLE, Int.reduceEq, Int.reduceNeg, Int.reduceAdd, Int.reduceMul, Int.reduceSub, Int.reduceToNat, reduceCtorEq, dec_t, dec_f, r8, beq_self_eq_true]
          refine from_ct hq.bm h5 (ws := ob.ws) (fun s => (lent_arr h5 (List.mem_cons_of_mem _ (List.mem_cons_self ..))).same s fun _ _ h => h) ko.lt ko.w ko.h (fun _ H6 h6 _ => ?_) (fun k => absurd k hyes)
          have r8 := rd_bm h6 (List.mem_cons_self ..) 3 rfl
          have r1 := (bms_at (hvb h6.tail.tail) hil).1
          rw [hol] at r1
          simp -implicitDefEqProofs -dsimp (disch := omega) only [go_sem, Nat.reduceEqDiff, ↓reduceIte, Nat.reduceAdd, Nat.reduceMul, Nat.reduceSub, Nat.reduceLT, Nat.reduceLeDiff, Int.reduceLT, Int.reduceLE, Int.reduceEq, Int.reduceNeg, Int.reduceAdd, Int.reduceMul, Int.reduceSub, Int.reduceToNat, reduceCtorEq, dec_t, dec_f, r8, Int.toNat_natCast, r1]
          refine backB_ct hq.kit hq.rz h6.p1 (fun H' h' => ko.arr.same (h'.tail.bas (bas_st hb)) fun _ _ h => h) (by omega) fun H7 h7 => ?_
          rw [decide_eq_true ⟨rfl, rfl⟩]
          simp -implicitDefEqProofs -dsimp (disch := omega) only [go_sem, Nat.reduceEqDiff, ↓reduceIte, Nat.reduceAdd, Nat.reduceMul, Nat.reduceSub, Nat.reduceLT, Nat.reduceLeDiff, Int.reduceLT, Int.reduceLE, Int.reduceEq, Int.reduceNeg, Int.reduceAdd, Int.reduceMul, Int.reduceSub, Int.reduceToNat, reduceCtorEq, dec_t, dec_f, beq_self_eq_true, d_gre, w64, cadd1]
          exact nxt H7 h7.tail
        · obtain rfl : ck = true := hck.2 hyes
          simp -implicitDefEqProofs -dsimp (disch := omega) only [go_sem, Nat.reduceEqDiff, ↓reduceIte, Nat.reduceAdd, Nat.reduceMul, Nat.reduceSub, Nat.reduceLT, Nat.reduceLeDiff, Int.reduceLT, Int.reduceLE, Int.reduceEq, Int.reduceNeg, Int.reduceAdd, Int.reduceMul, Int.reduceSub, Int.reduceToNat, reduceCtorEq, dec_t, dec_f, r8, beq_self_eq_true]
          refine from_ct hq.bm h5 (ws := ob.ws) (fun s => (lent_arr h5 (List.mem_cons_of_mem _ (List.mem_cons_self ..))).same s fun _ _ h => h) ko.lt ko.w ko.h (fun k => absurd hyes k) (fun _ m H6 h6 _ => ?_)
          have mm := bmM_of ko hyes
          have r8 := rd_bm h6.tail (List.mem_cons_self ..) 3 rfl
          have r1 := (bms_at (hvb h6.tail.tail.tail) hil).1
          rw [hol] at r1
          simp -implicitDefEqProofs -dsimp (disch := omega) only [go_sem, Nat.reduceEqDiff, ↓reduceIte, Nat.reduceAdd, Nat.reduceMul, Nat.reduceSub, Nat.reduceLT, Nat.reduceLeDiff, Int.reduceLT, Int.reduceLE, Int.reduceEq, Int.reduceNeg, Int.reduceAdd, Int.reduceMul, Int.reduceSub, Int.reduceToNat, reduceCtorEq, dec_t, dec_f, r8, Int.toNat_natCast, r1]
          refine backB_ct hq.kit hq.rz h6.p2 (fun H' h' => ko.arr.same (h'.tail.tail.bas (bas_st hb)) fun _ _ h => h) (by omega) fun H7 h7 => ?_
          rw [decide_eq_true ⟨rfl, rfl⟩]
          have h7 := h7.tail2
          obtain ⟨lv', H8, ha, hoo, hsm, hf⟩ := app_one h7.p1.own (M := [.ptr (some (m, 0))]) (m := 1) (eb := 8) rfl rfl (by omega) (by omega)
          have h8 := h7.p1.lst' hsm hoo hf
          have r1 := (bms_at ((hv.same (h8.bas (H0 := H0) (by simp [hb])) fun _ _ h => h)) hil).1
          rw [hol] at r1
          simp -implicitDefEqProofs -dsimp (disch := omega) only [go_sem, Nat.reduceEqDiff, ↓reduceIte, Nat.reduceAdd, Nat.reduceMul, Nat.reduceSub, Nat.reduceLT, Nat.reduceLeDiff, Int.reduceLT, Int.reduceLE, Int.reduceEq, Int.reduceNeg, Int.reduceAdd, Int.reduceMul, Int.reduceSub, Int.reduceToNat, reduceCtorEq, dec_t, dec_f, beq_self_eq_true, d_gre, ha, Int.toNat_natCast, r1]
          refine copyR_ct hq.rz h8 (ko.arr.same (h8.bas (H0 := H0) (by simp [hb])) fun _ _ h => h) (by omega) fun v' H9 h9 _ => ?_
          obtain ⟨va, vc, ve, hv'⟩ := h9.own.arr.shape
          have h10 := Hs.foc1 2 h9 rfl
          obtain ⟨rv', H11, ha2, hoo2, hsm2, hf2⟩ := app_one h10.p1.own (M := [.int .i64 ob.w, .int .i64 ob.h, v']) (m := 1) (eb := 40) rfl (by rw [hv']; rfl) (by omega) (by omega)
          have h11 := h10.p1.lst' hsm2 hoo2 hf2
          rw [hv'] at ha2 ⊢
          simp -implicitDefEqProofs -dsimp (disch := omega) only [go_sem, Nat.reduceEqDiff, ↓reduceIte, Nat.reduceAdd, Nat.reduceMul, Nat.reduceSub, Nat.reduceLT, Nat.reduceLeDiff, Int.reduceLT, Int.reduceLE, Int.reduceEq, Int.reduceNeg, Int.reduceAdd, Int.reduceMul, Int.reduceSub, Int.reduceToNat, reduceCtorEq, dec_t, dec_f, ha2, w64, cadd1]
          have h12 := (lst_of h11.p1 mm.words ⟨mm.w1, mm.h1, mm.area⟩).p2
          have hn := hn ⟨i + 1, lv', rv', ML ++ [⟨m, ob.wn, ob.hn, ob.px⟩], BL ++ [⟨v', ob.wn, ob.hn, ob.px⟩]⟩ H11 (by dsimp only; omega) ⟨by dsimp only; omega, by simp; omega, by unfold Mt at *; simp [hm, BR.k, MR.k], ?_⟩
          · unfold MpS.fr at hn
            exact hn
          · have e1 : brCells (BL ++ [⟨v', ob.wn, ob.hn, ob.px⟩]) = brCells BL ++ [.int .i64 ob.w, .int .i64 ob.h, v'] := by rw [brCells_snoc, mm.w, mm.h]; rfl
            unfold StL
            rw [e1]
            simp only [List.map_append, List.map_cons, List.map_nil, List.length_append, List.length_cons, List.length_nil]
            exact h12.perm (perm_two _ _ _ _ _ _ _)
      · rw [hov] at rb
        simp -implicitDefEqProofs -dsimp (disch := omega) only [go_sem, Nat.reduceEqDiff, ↓reduceIte, Nat.reduceAdd, Nat.reduceMul, Nat.reduceSub, Nat.reduceLT, Nat.reduceLeDiff, Int.reduceLT, Int.reduceLE, Int.reduceEq, Int.reduceNeg, Int.reduceAdd, Int.reduceMul, Int.reduceSub, Int.reduceToNat, reduceCtorEq, dec_t, dec_f, burinlaw2_maps_l0, MpS.fr, Int.toNat_natCast, rb, w64, cadd1]
        exact nxt H1 h1
    · subst hlv
      rw [hvs]
      simp -implicitDefEqProofs -dsimp (disch := omega) only [go_sem, Nat.reduceEqDiff, ↓reduceIte, Nat.reduceAdd, Nat.reduceMul, Nat.reduceSub, Nat.reduceLT, Nat.reduceLeDiff, Int.reduceLT, Int.reduceLE, Int.reduceEq, Int.reduceNeg, Int.reduceAdd, Int.reduceMul, Int.reduceSub, Int.reduceToNat, reduceCtorEq, dec_t, dec_f, burinlaw2_maps_l0, MpS.fr]
      rw [hx']
      simp -implicitDefEqProofs -dsimp (disch := omega) only [go_sem, Nat.reduceEqDiff, ↓reduceIte, Nat.reduceAdd, Nat.reduceMul, Nat.reduceSub, Nat.reduceLT, Nat.reduceLeDiff, Int.reduceLT, Int.reduceLE, Int.reduceEq, Int.reduceNeg, Int.reduceAdd, Int.reduceMul, Int.reduceSub, Int.reduceToNat, reduceCtorEq, dec_t, dec_f, ]
      exact hQ _ _ _ _ _ hm hl4 h1
  · subst hlv
    obtain rfl : i = l.length := by omega
    rw [hvs]
    simp -implicitDefEqProofs -dsimp (disch := omega) only [go_sem, Nat.reduceEqDiff, ↓reduceIte, Nat.reduceAdd, Nat.reduceMul, Nat.reduceSub, Nat.reduceLT, Nat.reduceLeDiff, Int.reduceLT, Int.reduceLE, Int.reduceEq, Int.reduceNeg, Int.reduceAdd, Int.reduceMul, Int.reduceSub, Int.reduceToNat, reduceCtorEq, dec_t, dec_f, burinlaw2_maps_l0, MpS.fr]
    rw [hx']
    simp -implicitDefEqProofs -dsimp (disch := omega) only [go_sem, Nat.reduceEqDiff, ↓reduceIte, Nat.reduceAdd, Nat.reduceMul, Nat.reduceSub, Nat.reduceLT, Nat.reduceLeDiff, Int.reduceLT, Int.reduceLE, Int.reduceEq, Int.reduceNeg, Int.reduceAdd, Int.reduceMul, Int.reduceSub, Int.reduceToNat, reduceCtorEq, dec_t, dec_f, ]
    exact hQ _ _ _ _ _ hm hl4 h1
end
end Go.Ab
/- The law's own crop. Conditions: none. -/
namespace Go.Ab
section
variable {P : Prog} {H : Heap} {R : List As} {Q : Out → Heap → Prop}
theorem same_eq (hq : HasL2 P) (i : Nat) {L : List As} {m w h : Nat} {p q : Nat → Nat → Bool} {v : V} (hs : Hs H L) (ei : L[i]? = some (MapA m w h p)) (ej : BmA v w h q ∈ L.eraseIdx i) (e : ∀ x y, x < w → y < h → p x y = q x y)
    (hQ : ∀ H', Hs H' L → Q (.ret (.bool true)) H') : Call P 101 [.ptr (some (m, 0)), .agg [.int .i64 w, .int .i64 h, v]] H Q :=
  same_at hq i hs ei ej fun H' h' => by rw [decide_eq_true e]; exact hQ H' h'
set_option maxHeartbeats 1000000 in
theorem cropL_ct (hq : HasL2 P) (hr : HasRef2 P) (hx : HasL2x P) {m w h : Nat} {p : Nat → Nat → Bool} {v : V} {n0 n1 n2 n3 n4 n5 n6 n7 : Int} (hs : Hs H (MapA m w h p :: R)) (sr : Src (MapA m w h p :: R) v w h p)
    (i0 : i64r n0) (i1 : i64r n1) (i2 : i64r n2) (i3 : i64r n3) (hQ : ∀ H', Hs H' (MapA m w h p :: R) → Q (.ret (.bool true)) H') :
    Call P 102 [.ptr (some (m, 0)), .agg [.int .i64 w, .int .i64 h, v], .agg [.int .i64 n0, .int .i64 n1, .int .i64 n2, .int .i64 n3, .int .i64 n4, .int .i64 n5, .int .i64 n6, .int .i64 n7]] H Q := by
  refine call_of hx.h_burinlaw2_crop rfl ?_
  have g1 := (hs.alloc (l := [.int .i64 w, .int .i64 h, v])).alloc (l := [.int .i64 n0, .int .i64 n1, .int .i64 n2, .int .i64 n3, .int .i64 n4, .int .i64 n5, .int .i64 n6, .int .i64 n7])
  rw [next_new] at g1
  have c5 := rd_s g1.cel
  have u2 := i2; have u3 := i3
  unfold i64r at u2 u3
  by_cases k : sizeOk n2 n3
  · have hle := sizeOk_le k
    obtain ⟨k1, k2, k3⟩ := k
    have k4 : 0 ≤ n2 * n3 := Int.mul_nonneg (by omega) (by omega)
    simp -implicitDefEqProofs -dsimp (disch := omega) only [go_sem, Nat.reduceEqDiff, ↓reduceIte, Nat.reduceAdd, Nat.reduceMul, Nat.reduceSub, Nat.reduceLT, Nat.reduceLeDiff, Int.reduceLT, Int.reduceLE, Int.reduceEq, Int.reduceNeg, Int.reduceAdd, Int.reduceMul, Int.reduceSub, Int.reduceToNat, reduceCtorEq, dec_t, dec_f, c5, Int.reduceToNat, Nat.reduceMul]
    generalize (H.new _).new _ = H1 at *
    generalize H.next + 1 = b5 at *
    generalize H.next = b4 at *
    refine sizeR_ct hq.rz i2 i3 ?_
    rw [decide_eq_true (show sizeOk n2 n3 from ⟨k1, k2, k3⟩)]
    by_cases big : 60000 < n2 * n3 + 64 * n3
    · simp -implicitDefEqProofs -dsimp (disch := omega) only [go_sem, Nat.reduceEqDiff, ↓reduceIte, Nat.reduceAdd, Nat.reduceMul, Nat.reduceSub, Nat.reduceLT, Nat.reduceLeDiff, Int.reduceLT, Int.reduceLE, Int.reduceEq, Int.reduceNeg, Int.reduceAdd, Int.reduceMul, Int.reduceSub, Int.reduceToNat, reduceCtorEq, dec_t, dec_f, c5, w64]
      exact hQ _ g1.tail.tail
    · simp -implicitDefEqProofs -dsimp (disch := omega) only [go_sem, Nat.reduceEqDiff, ↓reduceIte, Nat.reduceAdd, Nat.reduceMul, Nat.reduceSub, Nat.reduceLT, Nat.reduceLeDiff, Int.reduceLT, Int.reduceLE, Int.reduceEq, Int.reduceNeg, Int.reduceAdd, Int.reduceMul, Int.reduceSub, Int.reduceToNat, reduceCtorEq, dec_t, dec_f, c5, w64]
      refine crop_ct hq.bm g1.p2 i0 i1 i2 i3 (fun k => absurd ⟨k1, k2, k3⟩ k) fun _ c H2 g2 => ?_
      have c5 := rd_s (g2.celm (b := b5) (l := [.int .i64 n0, .int .i64 n1, .int .i64 n2, .int .i64 n3, .int .i64 n4, .int .i64 n5, .int .i64 n6, .int .i64 n7]) (by simp))
      have r4 := rd_bm g2 (b := b4) (l := [.int .i64 w, .int .i64 h, v]) (by simp) 3 rfl
      simp -implicitDefEqProofs -dsimp (disch := omega) only [go_sem, Nat.reduceEqDiff, ↓reduceIte, Nat.reduceAdd, Nat.reduceMul, Nat.reduceSub, Nat.reduceLT, Nat.reduceLeDiff, Int.reduceLT, Int.reduceLE, Int.reduceEq, Int.reduceNeg, Int.reduceAdd, Int.reduceMul, Int.reduceSub, Int.reduceToNat, reduceCtorEq, dec_t, dec_f, c5, r4]
      refine cropB_ct hr hq.rz (v := v) (p := p) g2 (sr.mono fun H' h' => h'.tail.tail2.tail2) i0 i1 i2 i3 (fun k => absurd ⟨k1, k2, k3⟩ k) fun _ ov H3 g3 => ?_
      obtain ⟨vb, kv⟩ := bmV g3
      obtain ⟨nw, rfl⟩ : ∃ k : Nat, n2 = k := ⟨n2.toNat, by omega⟩
      obtain ⟨nh, rfl⟩ : ∃ k : Nat, n3 = k := ⟨n3.toNat, by omega⟩
      simp only [Int.toNat_natCast] at g3 kv
      have g4 := g3.alloc (l := [.int .i64 nw, .int .i64 nh, ov])
      have hv := kv.val
      have r9 := rd_bm g4 (List.mem_cons_self ..) 3 rfl
      rw [hv] at g4 r9 ⊢
      simp -implicitDefEqProofs -dsimp (disch := omega) only [go_sem, Nat.reduceEqDiff, ↓reduceIte, Nat.reduceAdd, Nat.reduceMul, Nat.reduceSub, Nat.reduceLT, Nat.reduceLeDiff, Int.reduceLT, Int.reduceLE, Int.reduceEq, Int.reduceNeg, Int.reduceAdd, Int.reduceMul, Int.reduceSub, Int.reduceToNat, reduceCtorEq, dec_t, dec_f, r9, beq_self_eq_true]
      rw [← hv] at g4 ⊢
      refine same_eq hq 2 (v := ov) (q := cropP p w h n0 n1) g4 rfl (by simp) (fun _ _ _ _ => rfl) fun H4 g5 => ?_
      simp -implicitDefEqProofs -dsimp (disch := omega) only [go_sem, Nat.reduceEqDiff, ↓reduceIte, Nat.reduceAdd, Nat.reduceMul, Nat.reduceSub, Nat.reduceLT, Nat.reduceLeDiff, Int.reduceLT, Int.reduceLE, Int.reduceEq, Int.reduceNeg, Int.reduceAdd, Int.reduceMul, Int.reduceSub, Int.reduceToNat, reduceCtorEq, dec_t, dec_f, ]
      exact hQ _ g5.tail.tail.tail.tail2.tail2
  · rcases (show n2 ≤ 0 ∨ (0 < n2 ∧ n3 ≤ 0) ∨ (0 < n2 ∧ 0 < n3 ∧ 1048576 < n2) ∨ (0 < n2 ∧ 0 < n3 ∧ n2 ≤ 1048576 ∧ 1048576 < n3) ∨ (0 < n2 ∧ 0 < n3 ∧ n2 ≤ 1048576 ∧ n3 ≤ 1048576) by omega) with d | d | d | d | d
    all_goals
      simp -implicitDefEqProofs -dsimp (disch := omega) only [go_sem, Nat.reduceEqDiff, ↓reduceIte, Nat.reduceAdd, Nat.reduceMul, Nat.reduceSub, Nat.reduceLT, Nat.reduceLeDiff, Int.reduceLT, Int.reduceLE, Int.reduceEq, Int.reduceNeg, Int.reduceAdd, Int.reduceMul, Int.reduceSub, Int.reduceToNat, reduceCtorEq, dec_t, dec_f, c5, Int.reduceToNat, Nat.reduceMul]
      try (refine sizeR_ct hq.rz i2 i3 ?_; rw [decide_eq_false k]; simp -implicitDefEqProofs -dsimp (disch := omega) only [go_sem, Nat.reduceEqDiff, ↓reduceIte, Nat.reduceAdd, Nat.reduceMul, Nat.reduceSub, Nat.reduceLT, Nat.reduceLeDiff, Int.reduceLT, Int.reduceLE, Int.reduceEq, Int.reduceNeg, Int.reduceAdd, Int.reduceMul, Int.reduceSub, Int.reduceToNat, reduceCtorEq, dec_t, dec_f, c5])
      refine crop_ct hq.bm g1.p2 i0 i1 i2 i3 (fun _ => ?_) fun k' => absurd k' k
      have c5 := rd_s (g1.celm (b := H.next + 1) (l := [.int .i64 n0, .int .i64 n1, .int .i64 n2, .int .i64 n3, .int .i64 n4, .int .i64 n5, .int .i64 n6, .int .i64 n7]) (by simp))
      have r4 := rd_bm g1 (b := H.next) (l := [.int .i64 w, .int .i64 h, v]) (by simp) 3 rfl
      simp -implicitDefEqProofs -dsimp (disch := omega) only [go_sem, Nat.reduceEqDiff, ↓reduceIte, Nat.reduceAdd, Nat.reduceMul, Nat.reduceSub, Nat.reduceLT, Nat.reduceLeDiff, Int.reduceLT, Int.reduceLE, Int.reduceEq, Int.reduceNeg, Int.reduceAdd, Int.reduceMul, Int.reduceSub, Int.reduceToNat, reduceCtorEq, dec_t, dec_f, c5, r4, Int.reduceToNat, Nat.reduceMul]
      refine cropB_ct hr hq.rz (v := v) (p := p) g1 (sr.mono fun H' h' => h'.tail.tail) i0 i1 i2 i3 (fun _ H3 g3 => ?_) fun k' => absurd k' k
      simp -implicitDefEqProofs -dsimp (disch := omega) only [go_sem, Nat.reduceEqDiff, ↓reduceIte, Nat.reduceAdd, Nat.reduceMul, Nat.reduceSub, Nat.reduceLT, Nat.reduceLeDiff, Int.reduceLT, Int.reduceLE, Int.reduceEq, Int.reduceNeg, Int.reduceAdd, Int.reduceMul, Int.reduceSub, Int.reduceToNat, reduceCtorEq, dec_t, dec_f, beq_self_eq_true]
      exact hQ _ ((g3.keep (Same.new _ _ _)).tail.tail)
end
end Go.Ab
/- Lists of maps: reading, changing one of them. Conditions: none. -/
namespace Go.Ab
theorem Mt.at' {ML : List MR} {BL : List BR} (h : Mt ML BL) {i : Nat} (hi : i < ML.length) : ∃ m v w hh p, ML[i]? = some ⟨m, w, hh, p⟩ ∧ BL[i]? = some ⟨v, w, hh, p⟩ := by
  obtain ⟨h', e1, e2, e3⟩ := h.at hi
  refine ⟨ML[i].m, BL[i].v, ML[i].w, ML[i].h, ML[i].p, by simp [hi], ?_⟩
  rw [List.getElem?_eq_getElem h', ← e1, ← e2, ← e3]
section
variable {lv rv : V} {ML : List MR} {BL : List BR} {T : List As} {i : Nat} {H : Heap}
theorem stM' {r : MR} (h : ML[i]? = some r) : (StL lv rv ML BL T)[2 + i]? = some r.as := by
  obtain ⟨hi, e⟩ := List.getElem?_eq_some_iff.1 h
  rw [stM hi, e]
theorem stB' {r : BR} (h : BL[i]? = some r) : (StL lv rv ML BL T)[2 + ML.length + i]? = some r.as := by
  obtain ⟨hi, e⟩ := List.getElem?_eq_some_iff.1 h
  rw [stB hi, e]
theorem stM_set' {r : MR} (h : ML[i]? = some r) (r' : MR) (hm : r'.m = r.m) : (StL lv rv ML BL T).set (2 + i) r'.as = StL lv rv (ML.set i r') BL T := by
  obtain ⟨hi, e⟩ := List.getElem?_eq_some_iff.1 h
  exact stM_set hi r' (by rw [e]; exact hm)
theorem stB_set' {r : BR} (h : BL[i]? = some r) (r' : BR) (hm : r'.cs = r.cs) : (StL lv rv ML BL T).set (2 + ML.length + i) r'.as = StL lv rv ML (BL.set i r') T := by
  obtain ⟨hi, e⟩ := List.getElem?_eq_some_iff.1 h
  exact stB_set hi r' (by rw [e]; exact hm)
theorem stRd {lb lo lc n : Nat} {r : MR} (h : Hs H (StL (.sl (some (lb, lo)) n lc 1) rv ML BL T)) (hn : n = ML.length) (e : ML[i]? = some r) : rd H none lb (lo + i) = some (.ptr (some (r.m, 0))) := by
  subst hn
  obtain ⟨hi, e'⟩ := List.getElem?_eq_some_iff.1 e
  have k := (h.ownm (v := .sl (some (lb, lo)) ML.length lc 1) (e := 1) (n := ML.length) (l := ML.map MR.c) (by simp [StL])).arr
  rw [k.rd1 hi, List.getElem?_map, e]; rfl
theorem stRb {rb ro rc n : Nat} {r : BR} (h : Hs H (StL lv (.sl (some (rb, ro)) n rc 3) ML BL T)) (hn : n = BL.length) (e : BL[i]? = some r) : rd H (some 3) rb (ro + i * 3) = some (.agg [.int .i64 r.w, .int .i64 r.h, r.v]) := by
  subst hn
  obtain ⟨hi, e'⟩ := List.getElem?_eq_some_iff.1 e
  have k := (h.ownm (v := .sl (some (rb, ro)) BL.length rc 3) (e := 3) (n := BL.length) (l := brCells BL) (by simp [StL])).arr
  rw [k.agg hi, brCells_at hi, e']; rfl
theorem Hs.unf1s {L : List As} {A B : As} (e : L[i]? = some A) (h : Hs H (B :: A :: L.eraseIdx i)) : Hs H (B :: L) := by
  have := Hs.unf1 e h
  rwa [set_self e] at this
theorem Hs.unfs {L : List As} {A : As} (e : L[i]? = some A) (h : Hs H (A :: L.eraseIdx i)) : Hs H L := by
  have := Hs.unf e h
  rwa [set_self e] at this
theorem memB {j : Nat} {r : BR} (h : BL[j]? = some r) (hij : j ≠ i) : r.as ∈ (StL lv rv ML BL T).eraseIdx (2 + ML.length + i) := mem_erase (stB' h) (by omega)
theorem memB0 {j : Nat} {r : BR} (h : BL[j]? = some r) : r.as ∈ StL lv rv ML BL T := List.mem_of_getElem? (stB' h)
theorem memBM {j : Nat} {r : BR} (h : BL[j]? = some r) (hi : i < ML.length) : r.as ∈ (StL lv rv ML BL T).eraseIdx (2 + i) := mem_erase (stB' h) (by omega)
/-- One goes, another comes. -/
theorem Hs.repl {L : List As} {A A' : As} (h : Hs H (A' :: L)) (i : Nat) (e : L[i]? = some A) : Hs H (L.set i A') := Hs.unf e (Hs.foc1 i h e).tail2
/-- A new map in the list of maps. -/
theorem stNewM {lb n : Nat} {r r' : MR} (h : Hs H (r'.as :: StL (.sl (some (lb, 0)) n n 1) rv ML BL T)) (hn : n = ML.length) (e : ML[i]? = some r) :
    ∃ H', wr H lb i [.ptr (some (r'.m, 0))] = some H' ∧ Hs H' (StL (.sl (some (lb, 0)) n n 1) rv (ML.set i r') BL T) := by
  obtain ⟨hi, e'⟩ := List.getElem?_eq_some_iff.1 e
  have h2 := h.repl (2 + i) (stM' e)
  unfold StL at h2
  rw [show 2 + i = i + 1 + 1 by omega, List.set_cons_succ, List.set_cons_succ, List.set_append_left _ _ (by simpa using hi)] at h2
  obtain ⟨b, e1, hb, hw, ho, hsm⟩ := wr_own h2.own (i := i) (k := 0) hi (vs := [.ptr (some (r'.m, 0))]) (by simp) (by simp [one])
  cases e1
  rw [Nat.mul_one, Nat.add_zero, over_one (by simpa using hi)] at hw ho hsm
  refine ⟨_, hw, ?_⟩
  have h3 := h2.lst' hsm ho fun _ h => Or.inl h
  unfold StL
  rw [List.length_set, List.map_set, List.map_set]
  exact h3
theorem stNewB {rb n : Nat} {r r' : BR} (h : Hs H (r'.as :: StL lv (.sl (some (rb, 0)) n n 3) ML BL T)) (hn : n = BL.length) (e : BL[i]? = some r) (ho1 : one r'.v = true) :
    ∃ H', wr H rb (i * 3) [.int .i64 r'.w, .int .i64 r'.h, r'.v] = some H' ∧ Hs H' (StL lv (.sl (some (rb, 0)) n n 3) ML (BL.set i r') T) := by
  obtain ⟨hi, e'⟩ := List.getElem?_eq_some_iff.1 e
  have h2 := h.repl (2 + ML.length + i) (stB' e)
  unfold StL at h2
  rw [show 2 + ML.length + i = ML.length + i + 1 + 1 by omega, List.set_cons_succ, List.set_cons_succ, List.set_append_right _ _ (by simp), List.set_append_left _ _ (by simpa using hi)] at h2
  simp only [List.length_map, show ML.length + i - ML.length = i by omega] at h2
  have h2 := h2.p1
  obtain ⟨b, e1, hb, hw, ho, hsm⟩ := wr_own h2.own (i := i) (k := 0) hi (vs := [.int .i64 r'.w, .int .i64 r'.h, r'.v]) (by simp) (by show (true && (true && (one r'.v && true))) = true; rw [ho1]; rfl)
  cases e1
  have e2 : over (brCells BL) (i * 3) [.int .i64 r'.w, .int .i64 r'.h, r'.v] = brCells (BL.set i r') := brCells_set r' hi
  rw [Nat.add_zero, e2] at hw ho hsm
  refine ⟨_, hw, ?_⟩
  have h3 := (h2.lst' hsm ho fun _ h => Or.inl h).p1
  unfold StL
  rw [List.length_set, List.map_set]
  exact h3
theorem stShape (h : Hs H (StL lv rv ML BL T)) (h1 : 0 < ML.length) (h2 : BL.length = ML.length) : ∃ lb rb, lv = .sl (some (lb, 0)) ML.length ML.length 1 ∧ rv = .sl (some (rb, 0)) ML.length ML.length 3 := by
  have k1 := h.ownm (v := lv) (e := 1) (n := ML.length) (l := ML.map MR.c) (by simp [StL])
  have k2 := h.ownm (v := rv) (e := 3) (n := BL.length) (l := brCells BL) (by simp [StL])
  rcases k1 with ⟨_, hn, _⟩ | ⟨b, hv, _⟩
  · omega
  rcases k2 with ⟨_, hn, _⟩ | ⟨b2, hv2, _⟩
  · omega
  exact ⟨b, b2, hv, by rw [hv2, h2]⟩
theorem st_in {X : As} (h : Hs H (X :: StL lv rv ML BL T)) : Hs H (StL lv rv ML BL (X :: T)) := by
  refine h.perm ?_
  unfold StL
  have e : ∀ Y : List As, ML.map MR.as ++ (BL.map BR.as ++ Y) = (ML.map MR.as ++ BL.map BR.as) ++ Y := fun Y => (List.append_assoc _ _ _).symm
  rw [e, e]
  exact (List.Perm.swap _ _ _).trans (List.Perm.cons _ ((List.Perm.swap _ _ _).trans (List.Perm.cons _ List.perm_middle.symm)))
theorem st_out {X : As} (h : Hs H (StL lv rv ML BL (X :: T))) : Hs H (X :: StL lv rv ML BL T) := by
  refine h.perm ?_
  unfold StL
  have e : ∀ Y : List As, ML.map MR.as ++ (BL.map BR.as ++ Y) = (ML.map MR.as ++ BL.map BR.as) ++ Y := fun Y => (List.append_assoc _ _ _).symm
  rw [e, e]
  exact ((List.Perm.swap _ _ _).trans (List.Perm.cons _ ((List.Perm.swap _ _ _).trans (List.Perm.cons _ List.perm_middle.symm)))).symm
/-- A map, a bitmap that was changed in place. -/
theorem exM {m w h : Nat} {p p' : Nat → Nat → Bool} (e : ML[i]? = some ⟨m, w, h, p⟩) (k : Hs H (MapA m w h p' :: (StL lv rv ML BL T).eraseIdx (2 + i))) : Hs H (StL lv rv (ML.set i ⟨m, w, h, p'⟩) BL T) := by
  have := Hs.unf (stM' e) k
  rwa [show MapA m w h p' = MR.as ⟨m, w, h, p'⟩ from rfl, stM_set' e ⟨m, w, h, p'⟩ rfl] at this
theorem exM2 {m w h : Nat} {p p' : Nat → Nat → Bool} (e : ML[i]? = some ⟨m, w, h, p⟩) (k : Hs H ((StL lv rv ML BL T).set (2 + i) (MapA m w h p'))) : Hs H (StL lv rv (ML.set i ⟨m, w, h, p'⟩) BL T) := by
  rwa [show MapA m w h p' = MR.as ⟨m, w, h, p'⟩ from rfl, stM_set' e ⟨m, w, h, p'⟩ rfl] at k
theorem exB {v : V} {w h : Nat} {p p' : Nat → Nat → Bool} (e : BL[i]? = some ⟨v, w, h, p⟩) (k : Hs H (BmA v w h p' :: (StL lv rv ML BL T).eraseIdx (2 + ML.length + i))) : Hs H (StL lv rv ML (BL.set i ⟨v, w, h, p'⟩) T) := by
  have := Hs.unf (stB' e) k
  rwa [show BmA v w h p' = BR.as ⟨v, w, h, p'⟩ from rfl, stB_set' e ⟨v, w, h, p'⟩ rfl] at this
/-- What is read of the lists. -/
theorem exSt {lb rb n b10 ti tj : Nat} {m v w h p w' h' p'} {ns : List V} {T : List As} (k : Hs H (StL (.sl (some (lb, 0)) n n 1) (.sl (some (rb, 0)) n n 3) ML BL (Cel b10 ns :: T))) (h1 : ML.length = n) (h2 : BL.length = n) (t1 : ML[ti]? = some ⟨m, w, h, p⟩) (t2 : BL[tj]? = some ⟨v, w', h', p'⟩) :
    rd H none lb ti = some (.ptr (some (m, 0))) ∧ rd H (some 3) rb (tj * 3) = some (.agg [.int .i64 w', .int .i64 h', v]) ∧ ∀ o, rd H none b10 o = ns[o]? := by
  have a1 := stRd k h1.symm t1
  have a3 := stRb k h2.symm t2
  rw [Nat.zero_add] at a1 a3
  exact ⟨a1, a3, fun o => rd_s (k.celm (b := b10) (l := ns) (by simp [StL])) o⟩
end
end Go.Ab
/- The script of BitmapExact. Conditions: none. -/
namespace Go.Ab
abbrev opxTD : TD := .agg [.int .i64, .int .i64, .int .i64, n8TD]
abbrev scrTD : TD := .agg [.sl 40 bmTD, .sl 88 opxTD]
structure OpX where
  d : Int
  fr : Int
  to : Int
  n0 : Int
  n1 : Int
  n2 : Int
  n3 : Int
  n4 : Int
  n5 : Int
  n6 : Int
  n7 : Int
def OpX.cs (o : OpX) : List V := [.int .i64 o.d, .int .i64 o.fr, .int .i64 o.to, .int .i64 o.n0, .int .i64 o.n1, .int .i64 o.n2, .int .i64 o.n3, .int .i64 o.n4, .int .i64 o.n5, .int .i64 o.n6, .int .i64 o.n7]
structure OpXOk (o : OpX) : Prop where
  fr : i64r o.fr
  to : i64r o.to
  n0 : i64r o.n0
  n1 : i64r o.n1
  n2 : i64r o.n2
  n3 : i64r o.n3
  n4 : i64r o.n4
  n5 : i64r o.n5
  n6 : i64r o.n6
def opxCells (l : List OpX) : List V := l.flatMap OpX.cs
theorem opxCells_at : ∀ {l : List OpX} {i : Nat} (hi : i < l.length), ((opxCells l).drop (i * 11)).take 11 = l[i].cs
  | o :: l, 0, _ => by simp [opxCells, OpX.cs]
  | o :: l, i + 1, hi => by
    have := opxCells_at (l := l) (i := i) (by simpa using hi)
    rw [show (i + 1) * 11 = 11 + i * 11 by omega, ← List.drop_drop]
    simpa [opxCells, OpX.cs] using this
theorem opx_at {H : Heap} {b o c : Nat} {l : List OpX} (h : Arr H (.sl (some (b, o)) l.length c 11) 11 l.length (opxCells l)) {i : Nat} (hi : i < l.length) : rd H (some 11) b (o + i * 11) = some (.agg l[i].cs) := by
  rw [h.agg hi, opxCells_at hi]
theorem is_opx {H : Heap} {cs : List V} {x : TD.Ty opxTD} (h : Is H opxTD cs x) : ∃ o : OpX, cs = o.cs ∧ OpXOk o := by
  obtain ⟨a, r, e, ⟨h1, g1⟩, a2, r2, e2, ⟨h2, g2⟩, a3, r3, e3, ⟨h3, g3⟩, a4, r4, e4, h4, h5⟩ := h
  obtain ⟨n0, n1, n2, n3, n4, n5, n6, n7, k1, k2, k3, k4, k5, k6, k7, k8, k9⟩ := is_n8 h4
  exact ⟨⟨x.1, x.2.1, x.2.2.1, n0, n1, n2, n3, n4, n5, n6, n7⟩, by rw [e, e2, e3, e4, h1, h2, h3, k1, show r4 = [] from h5]; rfl, ⟨g2, g3, k2, k3, k4, k5, k6, k7, k8⟩⟩
theorem split_opx {H : Heap} : ∀ {xs : List (TD.Ty opxTD)} {L : List V}, Split (Is H opxTD) L xs → ∃ l : List OpX, L = opxCells l ∧ l.length = List.length xs ∧ ∀ o ∈ l, OpXOk o
  | [], _, h => ⟨[], h, rfl, fun _ h => by cases h⟩
  | x :: xs, L, ⟨a, b, e, h1, h2⟩ => by
    obtain ⟨l, h3, h4, h5⟩ := split_opx h2
    obtain ⟨o, k1, k2⟩ := is_opx h1
    refine ⟨o :: l, by rw [e, h3, k1]; rfl, by simp [h4], fun q hq => ?_⟩
    rcases List.mem_cons.1 hq with rfl | hq
    · exact k2
    · exact h5 q hq
theorem is_scr {H : Heap} {cs : List V} {x : TD.Ty scrTD} (h : Is H scrTD cs x) : ∃ (v1 v2 : V) (l : List BmO) (ops : List OpX), cs = [v1, v2] ∧ Arr H v1 3 l.length (bmCells l) ∧ (∀ o ∈ l, BmOk H o) ∧ l.length ≤ 140737488351232 ∧ Arr H v2 11 ops.length (opxCells ops) ∧ (∀ o ∈ ops, OpXOk o) ∧ ops.length ≤ 140737488351232 := by
  obtain ⟨a, r, e, h1, a2, r2, e2, h2, h3⟩ := h
  obtain ⟨v1, l, k1, k2, k3, k4⟩ := is_bms h1
  obtain ⟨v2, L, q1, q2, q3, q4⟩ := h2
  obtain ⟨ops, q5, q6, q7⟩ := split_opx q3
  refine ⟨v1, v2, l, ops, by rw [e, e2, k1, q1, show r2 = [] from h3]; rfl, k2, k3, k4, ?_, q7, by omega⟩
  rw [q6, ← q5]; exact q2
end Go.Ab
