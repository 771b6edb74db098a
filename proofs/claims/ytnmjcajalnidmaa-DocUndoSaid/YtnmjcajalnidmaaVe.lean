/- Documents: what draws. Conditions: none. -/
import Derived.Test.YtnmjcajalnidmaaVd
set_option linter.all false
namespace Go.Ab
def toldR (e : Int) : Int := if e = 20 then 180 else if e = 22 then 182 else if e = 23 ∨ e = 24 ∨ e = 25 then 183 else e
theorem docM_set {d : Nat} {vp vs : V} {PL : List MR} {SL : List St} {T : List As} {i : Nat} (hi : i < PL.length) (r : MR) (hm : r.m = PL[i].m) : (DocL d vp vs PL SL T).set (3 + i) r.as = DocL d vp vs (PL.set i r) SL T := by
  unfold DocL
  have e : (PL.set i r).map MR.c = PL.map MR.c := by
    rw [List.map_set]; exact lset_self (by rw [List.getElem?_map, List.getElem?_eq_getElem hi]; simp [MR.c, hm])
  rw [show 3 + i = i + 1 + 1 + 1 by omega, List.set_cons_succ, List.set_cons_succ, List.set_cons_succ, List.set_append_left _ _ (by simpa using hi), e, List.map_set, List.length_set]
theorem docIn {H : Heap} {d : Nat} {vp vs : V} {PL : List MR} {SL : List St} {T A : List As} (h : Hs H (A ++ DocL d vp vs PL SL T)) : Hs H (DocL d vp vs PL SL (A ++ T)) := by
  have e : ∀ T, DocL d vp vs PL SL T = (Cel d [vp, vs] :: Buf vp 1 PL.length (PL.map MR.c) :: Buf vs 1 SL.length (SL.map St.f) :: (PL.map MR.as ++ SL.flatMap (St.as d))) ++ T := fun T => by simp [DocL]
  rw [e] at h ⊢
  rw [← List.append_assoc] at h
  refine Hs.perm h ?_
  rw [← List.append_assoc]
  exact List.Perm.append_right _ List.perm_append_comm
theorem docOut {H : Heap} {d : Nat} {vp vs : V} {PL : List MR} {SL : List St} {T A : List As} (h : Hs H (DocL d vp vs PL SL (A ++ T))) : Hs H (A ++ DocL d vp vs PL SL T) := by
  have e : ∀ T, DocL d vp vs PL SL T = (Cel d [vp, vs] :: Buf vp 1 PL.length (PL.map MR.c) :: Buf vs 1 SL.length (SL.map St.f) :: (PL.map MR.as ++ SL.flatMap (St.as d))) ++ T := fun T => by simp [DocL]
  rw [e] at h ⊢
  rw [← List.append_assoc] at h ⊢
  exact Hs.perm h (List.Perm.append_right _ List.perm_append_comm)
theorem docT {d : Nat} {vp vs : V} {PL : List MR} {SL : List St} {T : List As} {A : As} (h : A ∈ T) : A ∈ DocL d vp vs PL SL T := by simp [DocL, h]
section
variable {P : Prog} {H : Heap} {T : List As} {Q : Out → Heap → Prop} {d : Nat} {vp vs : V} {PL : List MR} {SL : List St}
theorem kept_ct (hb : HasBm P) (hp : HasDoc P) {i : Nat} (hi : i < PL.length) (hs : Hs H (DocL d vp vs PL SL T))
    (hQ : ∀ cb cd cp v H', Hs H' (DocL d vp vs PL SL ((St.put cb cd cp v PL[i].w PL[i].h PL[i].p i).as d ++ T)) → Q (.ret (St.put cb cd cp v PL[i].w PL[i].h PL[i].p i).f) H') : Call P 137 [.ptr (some (d, 0)), .int .i64 i] H Q := by
  refine call_of hp.h_doc_Doc_kept rfl ?_
  have g1 := (hs.alloc (l := [.ptr (some (d, 0))])).alloc (l := [.int .i64 i])
  rw [next_new] at g1
  have c1 := rd_s g1.cel
  have c2 := rd_s g1.p1.cel
  have c0 := rd_s (Hs.p2 g1).cel
  have arr := (Hs.p3 g1).bufr.arr
  obtain ⟨pb, po, pc, rfl⟩ := arr.at0 (by omega)
  have rp := arr.rd1 hi
  rw [List.getElem?_map, List.getElem?_eq_getElem hi, Option.map_some] at rp
  have em := docM (d := d) (vp := .sl (some (pb, po)) PL.length pc 1) (vs := vs) (SL := SL) (T := T) hi
  generalize PL[i] = r at *
  have rp : rd _ none pb (po + i) = some (.ptr (some (r.m, 0))) := rp
  have g2 := g1.alloc (l := [.int .i64 0, .int .i64 0, .sl none 0 0 0])
  simp -implicitDefEqProofs -dsimp (disch := omega) only [go_sem, Nat.reduceEqDiff, ↓reduceIte, Nat.reduceAdd, Nat.reduceMul, Nat.reduceSub, Nat.reduceLT, Nat.reduceLeDiff, Int.reduceLT, Int.reduceLE, Int.reduceEq, Int.reduceNeg, Int.reduceAdd, Int.reduceMul, Int.reduceSub, Int.reduceToNat, reduceCtorEq, dec_t, dec_f, c0, c1, c2, Int.toNat_natCast, Nat.mul_one, rp, d_gre]
  simp only [next_new] at g2
  generalize ((H.new _).new _).new _ = H2 at *
  generalize H.next + 1 + 1 = cb at *
  generalize H.next + 1 = cp at *
  generalize H.next = cd at *
  refine plain_at hb (3 + (3 + i)) g2 (m := r.m) (w := r.w) (h := r.h) (p := r.p) (by rw [show 3 + (3 + i) = 3 + i + 1 + 1 + 1 by omega, List.getElem?_cons_succ, List.getElem?_cons_succ, List.getElem?_cons_succ]; exact em) fun v H3 g3 => ?_
  obtain ⟨va, vn, vc, ve, hv⟩ : ∃ a n c e, v = V.sl a n c e := by obtain ⟨vb, kv⟩ := bmV g3; exact ⟨_, _, _, _, kv.val⟩
  obtain ⟨H4, e4, g4⟩ := g3.sto 1 (o := 0) (vs := [.int .i64 r.w, .int .i64 r.h, v]) rfl (by simp) (by rw [hv]; rfl)
  have cb3 := g3.p1.cel
  refine aft_intro (t := tag _) (by simp [rechecks, recheck, fresh, Fr.get, Fr.put, look, step, opd, cb3]) ?_
  rw [hv] at e4
  rw [hv]
  simp -implicitDefEqProofs -dsimp (disch := omega) only [go_sem, Nat.reduceEqDiff, ↓reduceIte, Nat.reduceAdd, Nat.reduceMul, Nat.reduceSub, Nat.reduceLT, Nat.reduceLeDiff, Int.reduceLT, Int.reduceLE, Int.reduceEq, Int.reduceNeg, Int.reduceAdd, Int.reduceMul, Int.reduceSub, Int.reduceToNat, reduceCtorEq, dec_t, dec_f, e4]
  rw [← hv] at e4
  exact hQ cb cd cp v H4 (docIn (A := (St.put cb cd cp v r.w r.h r.p i).as d) (Hs.perm g4 (permN (fun n => match n with | 0 => BmA v r.w r.h r.p | 1 => Cel cb [.int .i64 r.w, .int .i64 r.h, v] | 2 => Cel cp [.int .i64 i] | _ => Cel cd [.ptr (some (d, 0))]) (by decide : [0, 1, 2, 3].Perm [1, 0, 3, 2]) _)))
theorem draw_ct (hb : HasBm P) (hp : HasDoc P) {page : Int} {g : Nat} {caps : List V} {er : MR → Int} {px : MR → Nat → Nat → Bool} (hs : Hs H (DocL d vp vs PL SL T)) (hl : SL.length ≤ 64)
    (hdoes : ∀ (i : Nat) (hi : i < PL.length) A H' (Q' : Out → Heap → Prop), Hs H' (DocL d vp vs PL SL (A ++ T)) → (∀ H'', Hs H'' (DocL d vp vs (PL.set i ⟨PL[i].m, PL[i].w, PL[i].h, px PL[i]⟩) SL (A ++ T)) → Q' (.ret (.int .i64 (er PL[i]))) H'') → Call P g ([.ptr (some (PL[i].m, 0))] ++ caps) H' Q')
    (hpx : ∀ r, er r ≠ 0 → px r = r.p)
    (h1 : ¬ (0 ≤ page ∧ page < PL.length) → ∀ H', Hs H' (DocL d vp vs PL SL T) → Q (.ret (.int .i64 182)) H')
    (h2 : ∀ (i : Nat) (hi : i < PL.length), page = i → er PL[i] ≠ 0 → ∀ H', Hs H' (DocL d vp vs PL SL T) → Q (.ret (.int .i64 (toldR (er PL[i])))) H')
    (h3 : ∀ (i : Nat) (hi : i < PL.length), page = i → er PL[i] = 0 → ∀ cb cd cp v vs' H', Hs H' (DocL d vp vs' (PL.set i ⟨PL[i].m, PL[i].w, PL[i].h, px PL[i]⟩) (push SL (.put cb cd cp v PL[i].w PL[i].h PL[i].p i)) T) → Q (.ret (.int .i64 0)) H') :
    Call P 138 [.ptr (some (d, 0)), .int .i64 page, .fn g [] caps] H Q := by
  refine call_of hp.h_doc_Doc_draw rfl ?_
  simp -implicitDefEqProofs -dsimp (disch := omega) only [go_sem, Nat.reduceEqDiff, ↓reduceIte, Nat.reduceAdd, Nat.reduceMul, Nat.reduceSub, Nat.reduceLT, Nat.reduceLeDiff, Int.reduceLT, Int.reduceLE, Int.reduceEq, Int.reduceNeg, Int.reduceAdd, Int.reduceMul, Int.reduceSub, Int.reduceToNat, reduceCtorEq, dec_t, dec_f, ]
  refine is_ct hp hs ?_
  by_cases k : 0 ≤ page ∧ page < PL.length
  · rw [decide_eq_true k]
    obtain ⟨i, rfl⟩ : ∃ i : Nat, page = i := ⟨page.toNat, by omega⟩
    have hi : i < PL.length := by omega
    simp -implicitDefEqProofs -dsimp (disch := omega) only [go_sem, Nat.reduceEqDiff, ↓reduceIte, Nat.reduceAdd, Nat.reduceMul, Nat.reduceSub, Nat.reduceLT, Nat.reduceLeDiff, Int.reduceLT, Int.reduceLE, Int.reduceEq, Int.reduceNeg, Int.reduceAdd, Int.reduceMul, Int.reduceSub, Int.reduceToNat, reduceCtorEq, dec_t, dec_f, ]
    refine kept_ct hb hp hi hs fun cb cd cp v H1 k1 => ?_
    have c0 := rd_s k1.cel
    have arr := k1.p1.bufr.arr
    obtain ⟨pb, po, pc, rfl⟩ := arr.at0 (by omega)
    have rp := arr.rd1 hi
    rw [List.getElem?_map, List.getElem?_eq_getElem hi, Option.map_some] at rp
    unfold MR.c at rp
    obtain ⟨g0, fa, fb, hf⟩ := f_fn (St.put cb cd cp v PL[i].w PL[i].h PL[i].p i)
    rw [hf]
    simp -implicitDefEqProofs -dsimp (disch := omega) only [go_sem, Nat.reduceEqDiff, ↓reduceIte, Nat.reduceAdd, Nat.reduceMul, Nat.reduceSub, Nat.reduceLT, Nat.reduceLeDiff, Int.reduceLT, Int.reduceLE, Int.reduceEq, Int.reduceNeg, Int.reduceAdd, Int.reduceMul, Int.reduceSub, Int.reduceToNat, reduceCtorEq, dec_t, dec_f, c0, Int.toNat_natCast, Nat.mul_one, rp]
    refine hdoes i hi _ H1 _ k1 fun H2 k2 => ?_
    by_cases e : er PL[i] = 0
    · rw [e]
      simp -implicitDefEqProofs -dsimp (disch := omega) only [go_sem, Nat.reduceEqDiff, ↓reduceIte, Nat.reduceAdd, Nat.reduceMul, Nat.reduceSub, Nat.reduceLT, Nat.reduceLeDiff, Int.reduceLT, Int.reduceLE, Int.reduceEq, Int.reduceNeg, Int.reduceAdd, Int.reduceMul, Int.reduceSub, Int.reduceToNat, reduceCtorEq, dec_t, dec_f, ]
      rw [← hf]
      refine done_ct hp k2 hl fun vs' H3 k3 => ?_
      simp -implicitDefEqProofs -dsimp (disch := omega) only [go_sem, Nat.reduceEqDiff, ↓reduceIte, Nat.reduceAdd, Nat.reduceMul, Nat.reduceSub, Nat.reduceLT, Nat.reduceLeDiff, Int.reduceLT, Int.reduceLE, Int.reduceEq, Int.reduceNeg, Int.reduceAdd, Int.reduceMul, Int.reduceSub, Int.reduceToNat, reduceCtorEq, dec_t, dec_f, ]
      exact h3 i hi rfl e cb cd cp v vs' H3 k3
    · simp -implicitDefEqProofs -dsimp (disch := omega) only [go_sem, Nat.reduceEqDiff, ↓reduceIte, Nat.reduceAdd, Nat.reduceMul, Nat.reduceSub, Nat.reduceLT, Nat.reduceLeDiff, Int.reduceLT, Int.reduceLE, Int.reduceEq, Int.reduceNeg, Int.reduceAdd, Int.reduceMul, Int.reduceSub, Int.reduceToNat, reduceCtorEq, dec_t, dec_f, ]
      refine told_ct hp ?_
      simp -implicitDefEqProofs -dsimp (disch := omega) only [go_sem, Nat.reduceEqDiff, ↓reduceIte, Nat.reduceAdd, Nat.reduceMul, Nat.reduceSub, Nat.reduceLT, Nat.reduceLeDiff, Int.reduceLT, Int.reduceLE, Int.reduceEq, Int.reduceNeg, Int.reduceAdd, Int.reduceMul, Int.reduceSub, Int.reduceToNat, reduceCtorEq, dec_t, dec_f, ]
      refine h2 i hi rfl e H2 ?_
      have := docOut k2
      rw [lset_self (by rw [hpx _ e]; exact List.getElem?_eq_getElem hi)] at this
      exact Hs.cutl this
  · rw [decide_eq_false k]
    simp -implicitDefEqProofs -dsimp (disch := omega) only [go_sem, Nat.reduceEqDiff, ↓reduceIte, Nat.reduceAdd, Nat.reduceMul, Nat.reduceSub, Nat.reduceLT, Nat.reduceLeDiff, Int.reduceLT, Int.reduceLE, Int.reduceEq, Int.reduceNeg, Int.reduceAdd, Int.reduceMul, Int.reduceSub, Int.reduceToNat, reduceCtorEq, dec_t, dec_f, ]
    exact h1 k H hs
theorem setAt (hb : HasBm P) {i : Nat} (hi : i < PL.length) {x y bit : Int} (hs : Hs H (DocL d vp vs PL SL T))
    (hQ : ∀ H', Hs H' (DocL d vp vs (PL.set i ⟨PL[i].m, PL[i].w, PL[i].h, setP PL[i].w PL[i].h PL[i].p x y bit⟩) SL T) → Q (.ret (.int .i64 (setR PL[i].w PL[i].h x y bit))) H') : Call P 50 [.ptr (some (PL[i].m, 0)), .int .i64 x, .int .i64 y, .int .i64 bit] H Q := by
  have em := docM (d := d) (vp := vp) (vs := vs) (SL := SL) (T := T) hi
  refine set_ct hb (Hs.foc (3 + i) hs em) fun H' h' => hQ H' ?_
  have h2 := Hs.unf em h'
  rw [← docM_set hi ⟨PL[i].m, PL[i].w, PL[i].h, setP PL[i].w PL[i].h PL[i].p x y bit⟩ rfl]
  exact h2
theorem setP_ref {w h : Nat} {p : Nat → Nat → Bool} {x y bit : Int} (hr : setR w h x y bit ≠ 0) : setP w h p x y bit = p := by
  unfold setR at hr; unfold setP
  split at hr
  · rename_i a
    split at hr
    · exact absurd rfl hr
    · rename_i b; rw [if_neg fun k => b k.2]
  · rename_i a; rw [if_neg fun k => a k.1]
theorem docSet_ct (hb : HasBm P) (hp : HasDoc P) {page x y bit : Int} (hs : Hs H (DocL d vp vs PL SL T)) (hl : SL.length ≤ 64)
    (h1 : ¬ (0 ≤ page ∧ page < PL.length) → ∀ H', Hs H' (DocL d vp vs PL SL T) → Q (.ret (.int .i64 182)) H')
    (h2 : ∀ (i : Nat) (hi : i < PL.length), page = i → setR PL[i].w PL[i].h x y bit ≠ 0 → ∀ H', Hs H' (DocL d vp vs PL SL T) → Q (.ret (.int .i64 (toldR (setR PL[i].w PL[i].h x y bit)))) H')
    (h3 : ∀ (i : Nat) (hi : i < PL.length), page = i → setR PL[i].w PL[i].h x y bit = 0 → ∀ cb cd cp v vs' H', Hs H' (DocL d vp vs' (PL.set i ⟨PL[i].m, PL[i].w, PL[i].h, setP PL[i].w PL[i].h PL[i].p x y bit⟩) (push SL (.put cb cd cp v PL[i].w PL[i].h PL[i].p i)) T) → Q (.ret (.int .i64 0)) H') :
    Call P 140 [.ptr (some (d, 0)), .int .i64 page, .int .i64 x, .int .i64 y, .int .i64 bit] H Q := by
  refine call_of hp.h_doc_Doc_Set rfl ?_
  have g1 := ((hs.alloc (l := [.int .i64 x])).alloc (l := [.int .i64 y])).alloc (l := [.int .i64 bit])
  simp only [next_new] at g1
  simp -implicitDefEqProofs -dsimp (disch := omega) only [go_sem, Nat.reduceEqDiff, ↓reduceIte, Nat.reduceAdd, Nat.reduceMul, Nat.reduceSub, Nat.reduceLT, Nat.reduceLeDiff, Int.reduceLT, Int.reduceLE, Int.reduceEq, Int.reduceNeg, Int.reduceAdd, Int.reduceMul, Int.reduceSub, Int.reduceToNat, reduceCtorEq, dec_t, dec_f, ]
  generalize ((H.new _).new _).new _ = H1 at *
  generalize H.next + 1 + 1 = b3 at *
  generalize H.next + 1 = b2 at *
  generalize H.next = b1 at *
  have g2 := docIn (A := [Cel b3 [.int .i64 bit], Cel b2 [.int .i64 y], Cel b1 [.int .i64 x]]) g1
  refine draw_ct hb hp (er := fun r => setR r.w r.h x y bit) (px := fun r => setP r.w r.h r.p x y bit) g2 hl (fun i hi A H' Q' h' hQ' => ?_) (fun r => setP_ref) (fun k H' h' => ?_) (fun i hi e k H' h' => ?_) (fun i hi e k cb cd cp v vs' H' h' => ?_)
  · refine call_of hp.h_doc_Doc_Set_1 rfl ?_
    have r1 := rd_s (h'.celm (b := b1) (l := [.int .i64 x]) (docT (by simp)))
    have r2 := rd_s (h'.celm (b := b2) (l := [.int .i64 y]) (docT (by simp)))
    have r3 := rd_s (h'.celm (b := b3) (l := [.int .i64 bit]) (docT (by simp)))
    simp -implicitDefEqProofs -dsimp (disch := omega) only [go_sem, Nat.reduceEqDiff, ↓reduceIte, Nat.reduceAdd, Nat.reduceMul, Nat.reduceSub, Nat.reduceLT, Nat.reduceLeDiff, Int.reduceLT, Int.reduceLE, Int.reduceEq, Int.reduceNeg, Int.reduceAdd, Int.reduceMul, Int.reduceSub, Int.reduceToNat, reduceCtorEq, dec_t, dec_f, r1, r2, r3]
    refine setAt hb hi h' fun H'' h'' => ?_
    simp -implicitDefEqProofs -dsimp (disch := omega) only [go_sem, Nat.reduceEqDiff, ↓reduceIte, Nat.reduceAdd, Nat.reduceMul, Nat.reduceSub, Nat.reduceLT, Nat.reduceLeDiff, Int.reduceLT, Int.reduceLE, Int.reduceEq, Int.reduceNeg, Int.reduceAdd, Int.reduceMul, Int.reduceSub, Int.reduceToNat, reduceCtorEq, dec_t, dec_f, ]
    exact hQ' H'' h''
  · simp -implicitDefEqProofs -dsimp (disch := omega) only [go_sem, Nat.reduceEqDiff, ↓reduceIte, Nat.reduceAdd, Nat.reduceMul, Nat.reduceSub, Nat.reduceLT, Nat.reduceLeDiff, Int.reduceLT, Int.reduceLE, Int.reduceEq, Int.reduceNeg, Int.reduceAdd, Int.reduceMul, Int.reduceSub, Int.reduceToNat, reduceCtorEq, dec_t, dec_f, ]
    exact h1 k H' (docOut h').tail.tail.tail
  · simp -implicitDefEqProofs -dsimp (disch := omega) only [go_sem, Nat.reduceEqDiff, ↓reduceIte, Nat.reduceAdd, Nat.reduceMul, Nat.reduceSub, Nat.reduceLT, Nat.reduceLeDiff, Int.reduceLT, Int.reduceLE, Int.reduceEq, Int.reduceNeg, Int.reduceAdd, Int.reduceMul, Int.reduceSub, Int.reduceToNat, reduceCtorEq, dec_t, dec_f, ]
    exact h2 i hi e k H' (docOut h').tail.tail.tail
  · simp -implicitDefEqProofs -dsimp (disch := omega) only [go_sem, Nat.reduceEqDiff, ↓reduceIte, Nat.reduceAdd, Nat.reduceMul, Nat.reduceSub, Nat.reduceLT, Nat.reduceLeDiff, Int.reduceLT, Int.reduceLE, Int.reduceEq, Int.reduceNeg, Int.reduceAdd, Int.reduceMul, Int.reduceSub, Int.reduceToNat, reduceCtorEq, dec_t, dec_f, ]
    exact h3 i hi e k cb cd cp v vs' H' (docOut h').tail.tail.tail
end
end Go.Ab
