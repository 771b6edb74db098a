/- Documents: a page told; the last step undone. Conditions: none. -/
import Derived.Test.YtnmjcajalnidmaaVc
import Derived.Test.YtnmjcajalnidmaaC4
import Derived.Test.YtnmjcajalnidmaaC5
set_option linter.all false
namespace Go.Ab
theorem slc_cap (esz b o len cap n : Nat) (k k' : IntKind) (H : Heap) (hh : n ≤ cap) : slc2 esz (some (.sl (some (b, o)) len cap esz)) (some none) (some (some (.int k n))) (some (some (.int k' n))) H = some (.sl (some (b, o)) n n esz, H) := by
  simp only [slc2, bound, Option.isSome_some, Bool.true_and, bne_self_eq_false, Bool.false_eq_true, if_false]
  rw [if_pos (show 0 ≤ (n : Int) ∧ (n : Int) ≤ cap by omega)]; simp
def St.back : St → List (Nat × Nat × (Nat → Nat → Bool)) → List (Nat × Nat × (Nat → Nat → Bool))
  | .new _ _ n, K => K.take n
  | .put _ _ _ _ w h p page, K => K.set page (w, h, p)
def St.may (n0 : Nat) : St → Prop
  | .new _ _ n => n < n0
  | .put _ _ _ _ _ _ _ page => page < n0
theorem docM {d : Nat} {vp vs : V} {PL : List MR} {SL : List St} {T : List As} {i : Nat} (hi : i < PL.length) : (DocL d vp vs PL SL T)[3 + i]? = some PL[i].as := by
  unfold DocL
  rw [show 3 + i = i + 1 + 1 + 1 by omega, List.getElem?_cons_succ, List.getElem?_cons_succ, List.getElem?_cons_succ, List.getElem?_append_left (by simpa using hi)]
  simp [hi]
theorem docS {d : Nat} {vp vs : V} {PL : List MR} {SL : List St} {T : List As} {S : St} (h : S ∈ SL) {A : As} (hA : A ∈ S.as d) : A ∈ DocL d vp vs PL SL T := by
  unfold DocL
  simp only [List.mem_cons, List.mem_append, List.mem_flatMap]
  exact Or.inr (Or.inr (Or.inr (Or.inr (Or.inl ⟨S, h, hA⟩))))
section
variable {P : Prog} {H : Heap} {T : List As} {Q : Out → Heap → Prop} {d : Nat} {vp vs : V} {PL : List MR} {SL : List St}
theorem page_ct (hb : HasBm P) (hp : HasDoc P) {page : Int} (hs : Hs H (DocL d vp vs PL SL T))
    (h1 : ¬ (0 ≤ page ∧ page < PL.length) → ∀ H', Hs H' (DocL d vp vs PL SL T) → Q (.ret (.tup [.agg [.int .i64 0, .int .i64 0, .sl none 0 0 0], .int .i64 182])) H')
    (h2 : ∀ (i : Nat) (hi : i < PL.length), page = i → ∀ v H', Hs H' (BmA v PL[i].w PL[i].h PL[i].p :: DocL d vp vs PL SL T) → Q (.ret (.tup [.agg [.int .i64 PL[i].w, .int .i64 PL[i].h, v], .int .i64 0])) H') : Call P 135 [.ptr (some (d, 0)), .int .i64 page] H Q := by
  refine call_of hp.h_doc_Doc_Page rfl ?_
  have g1 := hs.alloc (l := [.int .i64 0, .int .i64 0, .sl none 0 0 0])
  simp -implicitDefEqProofs -dsimp (disch := omega) only [go_sem, Nat.reduceEqDiff, ↓reduceIte, Nat.reduceAdd, Nat.reduceMul, Nat.reduceSub, Nat.reduceLT, Nat.reduceLeDiff, Int.reduceLT, Int.reduceLE, Int.reduceEq, Int.reduceNeg, Int.reduceAdd, Int.reduceMul, Int.reduceSub, Int.reduceToNat, reduceCtorEq, dec_t, dec_f, ]
  generalize H.new _ = H1 at *
  generalize H.next = b at *
  refine is_ct hp (T := T) (SL := SL) (PL := PL) (vp := vp) (vs := vs) g1.tail ?_
  by_cases k : 0 ≤ page ∧ page < PL.length
  · rw [decide_eq_true k]
    obtain ⟨i, rfl⟩ : ∃ i : Nat, page = i := ⟨page.toNat, by omega⟩
    have hi : i < PL.length := by omega
    have h2 := h2 i hi rfl
    have cd := rd_s g1.p1.cel
    have arr := (Hs.p2 g1).bufr.arr
    obtain ⟨pb, po, pc, rfl⟩ := arr.at0 (by omega)
    have rp := arr.rd1 hi
    rw [List.getElem?_map, List.getElem?_eq_getElem hi, Option.map_some] at rp
    have em := docM (d := d) (vp := .sl (some (pb, po)) PL.length pc 1) (vs := vs) (SL := SL) (T := T) hi
    generalize PL[i] = r at *
    unfold MR.c at rp
    simp -implicitDefEqProofs -dsimp (disch := omega) only [go_sem, Nat.reduceEqDiff, ↓reduceIte, Nat.reduceAdd, Nat.reduceMul, Nat.reduceSub, Nat.reduceLT, Nat.reduceLeDiff, Int.reduceLT, Int.reduceLE, Int.reduceEq, Int.reduceNeg, Int.reduceAdd, Int.reduceMul, Int.reduceSub, Int.reduceToNat, reduceCtorEq, dec_t, dec_f, cd, Int.toNat_natCast, Nat.mul_one, rp]
    refine plain_at hb (1 + (3 + i)) g1 (m := r.m) (w := r.w) (h := r.h) (p := r.p) (by rw [Nat.add_comm 1, List.getElem?_cons_succ]; exact em) fun v H2 g2 => ?_
    obtain ⟨va, vn, vc, ve, hv⟩ : ∃ a n c e, v = V.sl a n c e := by obtain ⟨vb, kv⟩ := bmV g2; exact ⟨_, _, _, _, kv.val⟩
    obtain ⟨H3, e3, g3⟩ := g2.sto 1 (o := 0) (vs := [.int .i64 r.w, .int .i64 r.h, v]) rfl (by simp) (by rw [hv]; rfl)
    have r3 := rd_bm g3 (b := b) (l := [.int .i64 r.w, .int .i64 r.h, v]) (by simp [over]) 3 rfl
    rw [hv] at e3 r3
    rw [hv]
    simp -implicitDefEqProofs -dsimp (disch := omega) only [go_sem, Nat.reduceEqDiff, ↓reduceIte, Nat.reduceAdd, Nat.reduceMul, Nat.reduceSub, Nat.reduceLT, Nat.reduceLeDiff, Int.reduceLT, Int.reduceLE, Int.reduceEq, Int.reduceNeg, Int.reduceAdd, Int.reduceMul, Int.reduceSub, Int.reduceToNat, reduceCtorEq, dec_t, dec_f, e3, r3]
    rw [← hv]
    exact h2 v H3 g3.tail2
  · rw [decide_eq_false k]
    obtain ⟨H3, e3, g3⟩ := g1.sto 0 (o := 0) (vs := [.int .i64 0, .int .i64 0, .sl none 0 0 0]) rfl (by simp) rfl
    have r3 := rd_bm g3 (b := b) (l := [.int .i64 0, .int .i64 0, .sl none 0 0 0]) (by simp [over]) 3 rfl
    simp -implicitDefEqProofs -dsimp (disch := omega) only [go_sem, Nat.reduceEqDiff, ↓reduceIte, Nat.reduceAdd, Nat.reduceMul, Nat.reduceSub, Nat.reduceLT, Nat.reduceLeDiff, Int.reduceLT, Int.reduceLE, Int.reduceEq, Int.reduceNeg, Int.reduceAdd, Int.reduceMul, Int.reduceSub, Int.reduceToNat, reduceCtorEq, dec_t, dec_f, e3, r3]
    exact h1 k H3 g3.tail
theorem undoNew_ct (hp : HasDoc P) {cd cn n : Nat} (hs : Hs H (DocL d vp vs PL SL T)) (hm : St.new cd cn n ∈ SL) (hn : n < PL.length)
    (hQ : ∀ vp' H', Hs H' (DocL d vp' vs (PL.take n) SL T) → Q (.ret (.tup [])) H') : Call P 132 [.ptr (some (cd, 0)), .ptr (some (cn, 0))] H Q := by
  refine call_of hp.h_doc_Doc_NewPage_1 rfl ?_
  have c0 := rd_s hs.cel
  have c1 := rd_s (hs.celm (b := cd) (l := [.ptr (some (d, 0))]) (docS hm (by simp [St.as])))
  have c2 := rd_s (hs.celm (b := cn) (l := [.int .i64 n]) (docS hm (by simp [St.as])))
  have hb := hs.p1.bufr
  obtain ⟨pb, po, pc, rfl⟩ := hb.arr.at0 (by omega)
  have hcap := hb.arr.cap.1
  obtain rfl : po = 0 := by
    rcases hb with ⟨hv, _⟩ | ⟨_, _, _, hv, _⟩
    · cases hv
    · cases hv; rfl
  have h1 := hs.p1.buf' (Same.refl _ _) (hb.cut (k := n) (c' := n) (by omega) (Nat.le_refl _) (by omega)) fun _ h => Or.inl h
  obtain ⟨H2, e2, h2⟩ := h1.sto 1 (o := 0) (vs := [.sl (some (pb, 0)) n n 1]) rfl (by simp) rfl
  simp -implicitDefEqProofs -dsimp (disch := omega) only [go_sem, Nat.reduceEqDiff, ↓reduceIte, Nat.reduceAdd, Nat.reduceMul, Nat.reduceSub, Nat.reduceLT, Nat.reduceLeDiff, Int.reduceLT, Int.reduceLE, Int.reduceEq, Int.reduceNeg, Int.reduceAdd, Int.reduceMul, Int.reduceSub, Int.reduceToNat, reduceCtorEq, dec_t, dec_f, c0, c1, c2, slc_cap, e2, d_gre]
  refine hQ (.sl (some (pb, 0)) n n 1) H2 ?_
  have h3 := Hs.p1 h2
  have e : PL.map MR.as = (PL.take n).map MR.as ++ (PL.drop n).map MR.as := by rw [← List.map_append, List.take_append_drop]
  have h4 : Hs H2 ((PL.drop n).map MR.as ++ (Cel d [.sl (some (pb, 0)) n n 1, vs] :: Buf (.sl (some (pb, 0)) n n 1) 1 n ((PL.map MR.c).take (n * 1)) :: Buf vs 1 SL.length (SL.map St.f) :: ((PL.take n).map MR.as ++ (SL.flatMap (St.as d) ++ T)))) := by
    refine Hs.perm h3 ?_
    show (Cel d [.sl (some (pb, 0)) n n 1, vs] :: Buf (.sl (some (pb, 0)) n n 1) 1 n ((PL.map MR.c).take (n * 1)) :: Buf vs 1 SL.length (SL.map St.f) :: (PL.map MR.as ++ (SL.flatMap (St.as d) ++ T))).Perm _
    rw [e, List.append_assoc]
    refine List.Perm.trans ?_ (List.perm_append_comm (l₁ := _ :: _ :: _ :: _))
    simp only [List.cons_append, List.append_assoc]
    refine List.Perm.cons _ (List.Perm.cons _ (List.Perm.cons _ (List.Perm.append_left _ ?_)))
    rw [← List.append_assoc (SL.flatMap _)]
    exact List.perm_append_comm
  have h5 := Hs.cutl h4
  unfold DocL
  rw [List.length_take, Nat.min_eq_left (by omega)]
  rw [Nat.mul_one] at h5
  simp only [List.map_take] at h5 ⊢
  exact h5
theorem perm_set (a b c e o : As) (X Y R : List As) : (a :: b :: c :: e :: (X ++ (o :: Y) ++ R)).Perm (o :: c :: a :: e :: (X ++ (b :: Y) ++ R)) := by
  have k : ∀ z, X ++ (z :: Y) ++ R = X ++ z :: (Y ++ R) := fun z => by simp
  rw [k, k]
  have h1 : (a :: b :: c :: e :: (X ++ o :: (Y ++ R))).Perm (a :: b :: c :: e :: o :: (X ++ (Y ++ R))) := List.Perm.cons _ (List.Perm.cons _ (List.Perm.cons _ (List.Perm.cons _ List.perm_middle)))
  have h2 : (a :: b :: c :: e :: o :: (X ++ (Y ++ R))).Perm (o :: c :: a :: e :: b :: (X ++ (Y ++ R))) :=
    permN (fun n => match n with | 0 => a | 1 => b | 2 => c | 3 => e | _ => o) (by decide : [0, 1, 2, 3, 4].Perm [4, 2, 0, 3, 1]) _
  exact h1.trans (h2.trans (List.Perm.cons _ (List.Perm.cons _ (List.Perm.cons _ (List.Perm.cons _ List.perm_middle.symm)))))
theorem mlist_set {PL : List MR} {r : MR} {i : Nat} (hi : i < PL.length) : over (PL.map MR.c) (i * 1) [r.c] = (PL.set i r).map MR.c := by
  rw [Nat.mul_one, over_one (by simpa using hi), List.map_set]
theorem undoPut_ct (hb : HasBm P) (hp : HasDoc P) {cb cd cp w h page : Nat} {v : V} {p : Nat → Nat → Bool} (hs : Hs H (DocL d vp vs PL SL T)) (hm : St.put cb cd cp v w h p page ∈ SL) (hn : page < PL.length)
    (hQ : ∀ m H', Hs H' (DocL d vp vs (PL.set page ⟨m, w, h, p⟩) SL T) → Q (.ret (.tup [])) H') : Call P 136 [.ptr (some (cb, 0)), .ptr (some (cd, 0)), .ptr (some (cp, 0))] H Q := by
  refine call_of hp.h_doc_Doc_kept_1 rfl ?_
  have mB : BmA v w h p ∈ DocL d vp vs PL SL T := docS hm (by simp [St.as])
  have m1 : Cel cb [.int .i64 w, .int .i64 h, v] ∈ DocL d vp vs PL SL T := docS hm (by simp [St.as])
  have m2 : Cel cd [.ptr (some (d, 0))] ∈ DocL d vp vs PL SL T := docS hm (by simp [St.as])
  have m3 : Cel cp [.int .i64 page] ∈ DocL d vp vs PL SL T := docS hm (by simp [St.as])
  have r1 := rd_bm hs m1 3 rfl
  obtain ⟨z1, z2, z3⟩ := bmSz0 (hs.ofmem mB)
  have z4 := Nat.le_mul_of_pos_right w (show 0 < h by omega)
  have z5 := Nat.le_mul_of_pos_left h (show 0 < w by omega)
  simp -implicitDefEqProofs -dsimp (disch := omega) only [go_sem, Nat.reduceEqDiff, ↓reduceIte, Nat.reduceAdd, Nat.reduceMul, Nat.reduceSub, Nat.reduceLT, Nat.reduceLeDiff, Int.reduceLT, Int.reduceLE, Int.reduceEq, Int.reduceNeg, Int.reduceAdd, Int.reduceMul, Int.reduceSub, Int.reduceToNat, reduceCtorEq, dec_t, dec_f, r1]
  refine from_ct hb hs (fun s => (hs.bmarr mB).same s fun _ _ h => h) (Wds_lt _ _ _) (by omega) (by omega) (fun k => absurd (mayB_Wds z1 z2 z3) k) fun _ m H2 h2 _ => ?_
  rw [Int.toNat_natCast, Int.toNat_natCast] at h2
  have h2 := h2.mapc (q := p) fun x y hx hy => pixOf_Wds p hx hy
  have c1 := rd_s (h2.tail.celm m2)
  have c2 := rd_s (h2.tail.celm m3)
  have c0 := rd_s h2.p1.cel
  have hbf := (Hs.p2 h2).bufr
  obtain ⟨pb, po, pc, rfl⟩ := hbf.arr.at0 (by omega)
  obtain rfl : po = 0 := by
    rcases hbf with ⟨hv, _⟩ | ⟨_, _, _, hv, _⟩
    · cases hv
    · cases hv; rfl
  obtain ⟨H3, e3, hb3, hsm⟩ := wr_buf hbf (i := page) hn (vs := [.ptr (some (m, 0))]) rfl rfl
  have h3 := (Hs.p2 h2).buf' hsm hb3 fun _ h => Or.inl h
  rw [Nat.mul_one] at e3
  simp -implicitDefEqProofs -dsimp (disch := omega) only [go_sem, Nat.reduceEqDiff, ↓reduceIte, Nat.reduceAdd, Nat.reduceMul, Nat.reduceSub, Nat.reduceLT, Nat.reduceLeDiff, Int.reduceLT, Int.reduceLE, Int.reduceEq, Int.reduceNeg, Int.reduceAdd, Int.reduceMul, Int.reduceSub, Int.reduceToNat, reduceCtorEq, dec_t, dec_f, c0, c1, c2, Int.toNat_natCast, Nat.mul_one, Nat.zero_add, e3, d_gre]
  refine hQ m H3 ?_
  have e : over (PL.map MR.c) (page * 1) [.ptr (some (m, 0))] = (PL.set page ⟨m, w, h, p⟩).map MR.c := mlist_set (r := ⟨m, w, h, p⟩) hn
  rw [e] at h3
  -- Buf :: MapA :: Cel d :: Buf vs :: rest
  have e2 : PL.map MR.as = (PL.take page).map MR.as ++ (PL[page].as :: (PL.drop (page + 1)).map MR.as) := by
    rw [← List.map_cons (f := MR.as), ← List.map_append, ← List.drop_eq_getElem_cons hn, List.take_append_drop]
  have e3 : (PL.set page ⟨m, w, h, p⟩).map MR.as = (PL.take page).map MR.as ++ (MapA m w h p :: (PL.drop (page + 1)).map MR.as) := by
    rw [List.set_eq_take_append_cons_drop, if_pos hn]; simp [MR.as]
  have h3 : Hs H3 (Buf (.sl (some (pb, 0)) PL.length pc 1) 1 PL.length ((PL.set page ⟨m, w, h, p⟩).map MR.c) :: MapA m w h p :: Cel d [.sl (some (pb, 0)) PL.length pc 1, vs] :: Buf vs 1 SL.length (SL.map St.f) :: (PL.map MR.as ++ (SL.flatMap (St.as d) ++ T))) := h3
  rw [e2] at h3
  unfold DocL
  rw [List.length_set, e3]
  generalize (PL.take page).map MR.as = X at *
  generalize (PL.drop (page + 1)).map MR.as = Y at *
  exact (Hs.perm h3 (perm_set _ _ _ _ _ _ _ _)).tail
theorem undo0_ct (hp : HasDoc P) (hs : Hs H (DocL d vp vs PL [] T)) (hQ : Q (.ret (.bool false)) H) : Call P 145 [.ptr (some (d, 0))] H Q := by
  refine call_of hp.h_doc_Doc_Undo rfl ?_
  have c0 := rd_s hs.cel
  obtain ⟨a, c, e, rfl⟩ := hs.p2.bufr.arr.shape
  simp -implicitDefEqProofs -dsimp (disch := omega) only [go_sem, Nat.reduceEqDiff, ↓reduceIte, Nat.reduceAdd, Nat.reduceMul, Nat.reduceSub, Nat.reduceLT, Nat.reduceLeDiff, Int.reduceLT, Int.reduceLE, Int.reduceEq, Int.reduceNeg, Int.reduceAdd, Int.reduceMul, Int.reduceSub, Int.reduceToNat, reduceCtorEq, dec_t, dec_f, c0, List.length_nil, w64]
  exact hQ
theorem drop_last {H : Heap} {d : Nat} {T : List As} {SL : List St} {S : St} {A : List As} (h : Hs H (A ++ ((SL ++ [S]).flatMap (St.as d) ++ T))) : Hs H (A ++ (SL.flatMap (St.as d) ++ T)) := by
  rw [List.flatMap_append, List.flatMap_cons, List.flatMap_nil, List.append_nil, List.append_assoc] at h
  refine Hs.cutl (A := S.as d) (Hs.perm h ?_)
  have e1 : A ++ (SL.flatMap (St.as d) ++ (S.as d ++ T)) = (A ++ SL.flatMap (St.as d)) ++ S.as d ++ T := by simp
  have e2 : S.as d ++ (A ++ (SL.flatMap (St.as d) ++ T)) = S.as d ++ (A ++ SL.flatMap (St.as d)) ++ T := by simp
  rw [e1, e2]
  exact List.Perm.append_right _ List.perm_append_comm
theorem undo_ct (hb : HasBm P) (hp : HasDoc P) {S : St} (hs : Hs H (DocL d vp vs PL (SL ++ [S]) T)) (hl : SL.length ≤ 64) (hm : S.may PL.length)
    (hQ : ∀ vp' vs' PL' H', PL'.map MR.k = S.back (PL.map MR.k) → Hs H' (DocL d vp' vs' PL' SL T) → Q (.ret (.bool true)) H') : Call P 145 [.ptr (some (d, 0))] H Q := by
  refine call_of hp.h_doc_Doc_Undo rfl ?_
  have c0 := rd_s hs.cel
  have hb2 := hs.p2.bufr
  have hln : (SL ++ [S]).length = SL.length + 1 := by simp
  obtain ⟨sb, so, sc, rfl⟩ := hb2.arr.at0 (by omega)
  obtain rfl : so = 0 := by
    rcases hb2 with ⟨hv, _⟩ | ⟨_, _, _, hv, _⟩
    · cases hv
    · cases hv; rfl
  have rl := hb2.arr.rd1 (i := SL.length) (by omega)
  have hcap := hb2.arr.cap.1
  rw [List.map_append, List.getElem?_append_right (by simp), List.length_map, Nat.sub_self] at rl
  have rl : rd H none sb (0 + SL.length) = some S.f := rl
  have en : ((SL.length + 1 : Nat) : Int) - 1 = ((SL.length : Nat) : Int) := by omega
  rw [Nat.zero_add] at rl
  have fin : ∀ vp' PL' H', PL'.map MR.k = S.back (PL.map MR.k) → Hs H' (DocL d vp' (.sl (some (sb, 0)) (SL ++ [S]).length sc 1) PL' (SL ++ [S]) T) → ∃ H2, wr H' d 1 [.sl (some (sb, 0)) SL.length sc 1] = some H2 ∧ Q (.ret (.bool true)) H2 := fun vp' PL' H' e h => by
    have h1 := h.p2.buf' (Same.refl _ _) (h.p2.bufr.cut (k := SL.length) (c' := sc) (by omega) (by omega) (Nat.le_refl _)) fun _ h => Or.inl h
    obtain ⟨H2, e2, h2⟩ := h1.sto 1 (o := 1) (vs := [.sl (some (sb, 0)) SL.length sc 1]) rfl (by simp) rfl
    refine ⟨H2, e2, hQ vp' (.sl (some (sb, 0)) SL.length sc 1) PL' H2 e ?_⟩
    have h3 := Hs.p2 (Hs.p2 h2)
    have h4 := drop_last (A := Cel d [vp', .sl (some (sb, 0)) SL.length sc 1] :: Buf vp' 1 PL'.length (PL'.map MR.c) :: Buf (.sl (some (sb, 0)) SL.length sc 1) 1 SL.length (((SL ++ [S]).map St.f).take (SL.length * 1)) :: PL'.map MR.as) h3
    rw [Nat.mul_one, ← List.map_take, List.take_left'  rfl] at h4
    exact h4
  have mS : S ∈ SL ++ [S] := by simp
  cases S with
  | new cd cn n =>
    unfold St.f at rl
    simp -implicitDefEqProofs -dsimp (disch := omega) only [go_sem, Nat.reduceEqDiff, ↓reduceIte, Nat.reduceAdd, Nat.reduceMul, Nat.reduceSub, Nat.reduceLT, Nat.reduceLeDiff, Int.reduceLT, Int.reduceLE, Int.reduceEq, Int.reduceNeg, Int.reduceAdd, Int.reduceMul, Int.reduceSub, Int.reduceToNat, reduceCtorEq, dec_t, dec_f, c0, hln, en, w64, Int.toNat_natCast, Nat.mul_one, Nat.zero_add, rl]
    refine undoNew_ct hp hs mS hm fun vp1 H1 h1 => ?_
    obtain ⟨H2, e2, hq⟩ := fin vp1 _ H1 (by simp [St.back, List.map_take]) h1
    have c1 := rd_s h1.cel
    simp -implicitDefEqProofs -dsimp (disch := omega) only [go_sem, Nat.reduceEqDiff, ↓reduceIte, Nat.reduceAdd, Nat.reduceMul, Nat.reduceSub, Nat.reduceLT, Nat.reduceLeDiff, Int.reduceLT, Int.reduceLE, Int.reduceEq, Int.reduceNeg, Int.reduceAdd, Int.reduceMul, Int.reduceSub, Int.reduceToNat, reduceCtorEq, dec_t, dec_f, c1, hln, Int.toNat_natCast, e2]
    exact hq
  | put cb cd cp v w h p page =>
    unfold St.f at rl
    simp -implicitDefEqProofs -dsimp (disch := omega) only [go_sem, Nat.reduceEqDiff, ↓reduceIte, Nat.reduceAdd, Nat.reduceMul, Nat.reduceSub, Nat.reduceLT, Nat.reduceLeDiff, Int.reduceLT, Int.reduceLE, Int.reduceEq, Int.reduceNeg, Int.reduceAdd, Int.reduceMul, Int.reduceSub, Int.reduceToNat, reduceCtorEq, dec_t, dec_f, c0, hln, en, w64, Int.toNat_natCast, Nat.mul_one, Nat.zero_add, rl]
    refine undoPut_ct hb hp hs mS hm fun m H1 h1 => ?_
    obtain ⟨H2, e2, hq⟩ := fin _ _ H1 (by simp [St.back, List.map_set, MR.k]) h1
    have c1 := rd_s h1.cel
    simp -implicitDefEqProofs -dsimp (disch := omega) only [go_sem, Nat.reduceEqDiff, ↓reduceIte, Nat.reduceAdd, Nat.reduceMul, Nat.reduceSub, Nat.reduceLT, Nat.reduceLeDiff, Int.reduceLT, Int.reduceLE, Int.reduceEq, Int.reduceNeg, Int.reduceAdd, Int.reduceMul, Int.reduceSub, Int.reduceToNat, reduceCtorEq, dec_t, dec_f, c1, hln, Int.toNat_natCast, e2]
    exact hq
end
end Go.Ab
