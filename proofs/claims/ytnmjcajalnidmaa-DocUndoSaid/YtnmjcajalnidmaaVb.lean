/- Documents: what they hold; what is remembered. Conditions: none. -/
import Derived.Test.YtnmjcajalnidmaaVa
import Derived.Test.YtnmjcajalnidmaaC6
import Derived.Test.YtnmjcajalnidmaaPDoc
set_option linter.all false
namespace Go.Ab
/-- A step that is remembered. -/
inductive St where
  | new (cd cn n : Nat)
  | put (cb cd cp : Nat) (v : V) (w h : Nat) (p : Nat → Nat → Bool) (page : Nat)
def St.f : St → V
  | .new cd cn _ => .fn 132 [] [.ptr (some (cd, 0)), .ptr (some (cn, 0))]
  | .put cb cd cp _ _ _ _ _ => .fn 136 [] [.ptr (some (cb, 0)), .ptr (some (cd, 0)), .ptr (some (cp, 0))]
def St.as (d : Nat) : St → List As
  | .new cd cn n => [Cel cd [.ptr (some (d, 0))], Cel cn [.int .i64 n]]
  | .put cb cd cp v w h p page => [Cel cb [.int .i64 w, .int .i64 h, v], BmA v w h p, Cel cd [.ptr (some (d, 0))], Cel cp [.int .i64 page]]
def DocL (d : Nat) (vp vs : V) (PL : List MR) (SL : List St) (T : List As) : List As :=
  Cel d [vp, vs] :: Buf vp 1 PL.length (PL.map MR.c) :: Buf vs 1 SL.length (SL.map St.f) :: (PL.map MR.as ++ (SL.flatMap (St.as d) ++ T))
def push (SL : List St) (S : St) : List St := (if SL.length = 64 then SL.drop 1 else SL) ++ [S]
theorem push_len {SL : List St} {S : St} (h : SL.length ≤ 64) : (push SL S).length ≤ 64 := by
  unfold push; split <;> simp <;> omega
theorem f_one (SL : List St) : (SL.map St.f).all one = true := by
  rw [List.all_map, List.all_eq_true]; intro s _; cases s <;> rfl
theorem Hs.cutl {H : Heap} {R : List As} : ∀ {A : List As}, Hs H (A ++ R) → Hs H R
  | [], h => h
  | _ :: _, h => Hs.cutl (Hs.tail h)
theorem f_fn (S : St) : ∃ g a b, S.f = .fn g a b := by cases S <;> exact ⟨_, _, _, rfl⟩
theorem drop_steps {H : Heap} {d : Nat} {T : List As} : ∀ {SL : List St} {A : List As}, Hs H (A ++ (SL.flatMap (St.as d) ++ T)) → Hs H (A ++ ((SL.drop 1).flatMap (St.as d) ++ T))
  | [], _, h => h
  | S :: SL, A, h => by
    have e : (A ++ ((S :: SL).flatMap (St.as d) ++ T)).Perm (S.as d ++ (A ++ (SL.flatMap (St.as d) ++ T))) := by
      rw [List.flatMap_cons, List.append_assoc, ← List.append_assoc, ← List.append_assoc (S.as d)]
      exact List.Perm.append_right _ List.perm_append_comm
    exact Hs.cutl (Hs.perm h e)
section
variable {P : Prog} {H : Heap} {T : List As} {Q : Out → Heap → Prop} {d : Nat} {vp vs : V} {PL : List MR} {SL : List St}
theorem told_ct (hp : HasDoc P) {e : Int} (hQ : Q (.ret (.int .i64 (if e = 20 then 180 else if e = 22 then 182 else if e = 23 ∨ e = 24 ∨ e = 25 then 183 else e))) H) : Call P 129 [.int .i64 e] H Q := by
  refine call_of hp.h_doc_told rfl ?_
  by_cases a : e = 20
  · subst a; simp -implicitDefEqProofs -dsimp (disch := omega) only [go_sem, Nat.reduceEqDiff, ↓reduceIte, Nat.reduceAdd, Nat.reduceMul, Nat.reduceSub, Nat.reduceLT, Nat.reduceLeDiff, Int.reduceLT, Int.reduceLE, Int.reduceEq, Int.reduceNeg, Int.reduceAdd, Int.reduceMul, Int.reduceSub, Int.reduceToNat, reduceCtorEq, dec_t, dec_f, ]; exact hQ
  by_cases b : e = 22
  · subst b; simp -implicitDefEqProofs -dsimp (disch := omega) only [go_sem, Nat.reduceEqDiff, ↓reduceIte, Nat.reduceAdd, Nat.reduceMul, Nat.reduceSub, Nat.reduceLT, Nat.reduceLeDiff, Int.reduceLT, Int.reduceLE, Int.reduceEq, Int.reduceNeg, Int.reduceAdd, Int.reduceMul, Int.reduceSub, Int.reduceToNat, reduceCtorEq, dec_t, dec_f, ]; exact hQ
  rw [if_neg a, if_neg b] at hQ
  by_cases c : e = 23
  · subst c; simp -implicitDefEqProofs -dsimp (disch := omega) only [go_sem, Nat.reduceEqDiff, ↓reduceIte, Nat.reduceAdd, Nat.reduceMul, Nat.reduceSub, Nat.reduceLT, Nat.reduceLeDiff, Int.reduceLT, Int.reduceLE, Int.reduceEq, Int.reduceNeg, Int.reduceAdd, Int.reduceMul, Int.reduceSub, Int.reduceToNat, reduceCtorEq, dec_t, dec_f, ]; exact hQ
  by_cases c2 : e = 24
  · subst c2; simp -implicitDefEqProofs -dsimp (disch := omega) only [go_sem, Nat.reduceEqDiff, ↓reduceIte, Nat.reduceAdd, Nat.reduceMul, Nat.reduceSub, Nat.reduceLT, Nat.reduceLeDiff, Int.reduceLT, Int.reduceLE, Int.reduceEq, Int.reduceNeg, Int.reduceAdd, Int.reduceMul, Int.reduceSub, Int.reduceToNat, reduceCtorEq, dec_t, dec_f, ]; exact hQ
  by_cases c3 : e = 25
  · subst c3; simp -implicitDefEqProofs -dsimp (disch := omega) only [go_sem, Nat.reduceEqDiff, ↓reduceIte, Nat.reduceAdd, Nat.reduceMul, Nat.reduceSub, Nat.reduceLT, Nat.reduceLeDiff, Int.reduceLT, Int.reduceLE, Int.reduceEq, Int.reduceNeg, Int.reduceAdd, Int.reduceMul, Int.reduceSub, Int.reduceToNat, reduceCtorEq, dec_t, dec_f, ]; exact hQ
  rw [if_neg (by omega)] at hQ
  simp -implicitDefEqProofs -dsimp (disch := omega) only [go_sem, Nat.reduceEqDiff, ↓reduceIte, Nat.reduceAdd, Nat.reduceMul, Nat.reduceSub, Nat.reduceLT, Nat.reduceLeDiff, Int.reduceLT, Int.reduceLE, Int.reduceEq, Int.reduceNeg, Int.reduceAdd, Int.reduceMul, Int.reduceSub, Int.reduceToNat, reduceCtorEq, dec_t, dec_f, ]
  exact hQ
theorem is_ct (hp : HasDoc P) {page : Int} (hs : Hs H (DocL d vp vs PL SL T)) (hQ : Q (.ret (.bool (decide (0 ≤ page ∧ page < PL.length)))) H) : Call P 131 [.ptr (some (d, 0)), .int .i64 page] H Q := by
  refine call_of hp.h_doc_Doc_is rfl ?_
  have c0 := rd_s hs.cel
  obtain ⟨a, c, e, rfl⟩ := hs.p1.bufr.arr.shape
  by_cases k : 0 ≤ page
  · rw [show decide (0 ≤ page ∧ page < PL.length) = decide (page < PL.length) from decide_eq_decide.2 (by omega)] at hQ
    simp -implicitDefEqProofs -dsimp (disch := omega) only [go_sem, Nat.reduceEqDiff, ↓reduceIte, Nat.reduceAdd, Nat.reduceMul, Nat.reduceSub, Nat.reduceLT, Nat.reduceLeDiff, Int.reduceLT, Int.reduceLE, Int.reduceEq, Int.reduceNeg, Int.reduceAdd, Int.reduceMul, Int.reduceSub, Int.reduceToNat, reduceCtorEq, dec_t, dec_f, c0]
    exact hQ
  · rw [decide_eq_false (by omega)] at hQ
    simp -implicitDefEqProofs -dsimp (disch := omega) only [go_sem, Nat.reduceEqDiff, ↓reduceIte, Nat.reduceAdd, Nat.reduceMul, Nat.reduceSub, Nat.reduceLT, Nat.reduceLeDiff, Int.reduceLT, Int.reduceLE, Int.reduceEq, Int.reduceNeg, Int.reduceAdd, Int.reduceMul, Int.reduceSub, Int.reduceToNat, reduceCtorEq, dec_t, dec_f, c0]
    exact hQ
theorem pages_ct (hp : HasDoc P) (hs : Hs H (DocL d vp vs PL SL T)) (hQ : Q (.ret (.int .i64 PL.length)) H) : Call P 134 [.ptr (some (d, 0))] H Q := by
  refine call_of hp.h_doc_Doc_Pages rfl ?_
  have c0 := rd_s hs.cel
  obtain ⟨a, c, e, rfl⟩ := hs.p1.bufr.arr.shape
  simp -implicitDefEqProofs -dsimp (disch := omega) only [go_sem, Nat.reduceEqDiff, ↓reduceIte, Nat.reduceAdd, Nat.reduceMul, Nat.reduceSub, Nat.reduceLT, Nat.reduceLeDiff, Int.reduceLT, Int.reduceLE, Int.reduceEq, Int.reduceNeg, Int.reduceAdd, Int.reduceMul, Int.reduceSub, Int.reduceToNat, reduceCtorEq, dec_t, dec_f, c0]
  exact hQ
theorem docNew_ct (hp : HasDoc P) (hs : Hs H T) (hQ : ∀ d H', Hs H' (DocL d (.sl none 0 0 0) (.sl none 0 0 0) [] [] T) → Q (.ret (.ptr (some (d, 0)))) H') : Call P 128 [] H Q := by
  refine call_of hp.h_doc_New rfl ?_
  have h1 := ((hs.lst (Same.refl _ _) (own_nil _ 1) fun _ h => h.elim).buf.lst (Same.refl _ _) (own_nil _ 1) fun _ h => h.elim).buf.alloc (l := [.sl none 0 0 0, .sl none 0 0 0])
  simp -implicitDefEqProofs -dsimp (disch := omega) only [go_sem, Nat.reduceEqDiff, ↓reduceIte, Nat.reduceAdd, Nat.reduceMul, Nat.reduceSub, Nat.reduceLT, Nat.reduceLeDiff, Int.reduceLT, Int.reduceLE, Int.reduceEq, Int.reduceNeg, Int.reduceAdd, Int.reduceMul, Int.reduceSub, Int.reduceToNat, reduceCtorEq, dec_t, dec_f, ]
  exact hQ _ _ h1
/-- One more step. -/
theorem step_on {S : St} (hs : Hs H (DocL d vp vs PL SL (S.as d ++ T))) (hl : SL.length ≤ 64) :
    ∃ v2 H2, app (H.new (.cells [S.f] true)) 1 8 vs (.sl (some (H.next, 0)) 1 1 1) = some (v2, H2) ∧ ∃ H3, wr H2 d 1 [v2] = some H3 ∧ Hs H3 (DocL d vp v2 PL (SL ++ [S]) T) := by
  obtain ⟨v2, H2, ha, hb, hsm, hf⟩ := app_buf1 hs.p2.bufr (M := [S.f]) (m := 1) (eb := 8) rfl (f_one [S]) (by omega) (by omega)
  have h2 := hs.p2.buf' hsm hb hf
  obtain ⟨a, c, e, rfl⟩ := h2.bufr.arr.shape
  obtain ⟨H3, e3, h3⟩ := h2.sto 1 (o := 1) (vs := [.sl a (SL.length + 1) c e]) rfl (by simp) rfl
  refine ⟨_, H2, ha, H3, e3, ?_⟩
  have h4 := Hs.p2 (Hs.p2 h3)
  unfold DocL
  simp only [List.map_append, List.map_cons, List.map_nil, List.length_append, List.length_cons, List.length_nil, List.flatMap_append, List.flatMap_cons, List.flatMap_nil, List.append_nil, List.append_assoc]
  exact h4
theorem done_ct (hp : HasDoc P) {S : St} (hs : Hs H (DocL d vp vs PL SL (S.as d ++ T))) (hl : SL.length ≤ 64) (hQ : ∀ vs' H', Hs H' (DocL d vp vs' PL (push SL S) T) → Q (.ret (.tup [])) H') : Call P 130 [.ptr (some (d, 0)), S.f] H Q := by
  refine call_of hp.h_doc_Doc_done rfl ?_
  have c0 := rd_s hs.cel
  unfold push at hQ
  by_cases k : SL.length = 64
  · rw [if_pos k] at hQ
    obtain ⟨b, o, c, rfl⟩ := hs.p2.bufr.arr.at0 (by omega)
    have arr := hs.p2.bufr.arr.drop (k := 1) (by omega)
    have hcap := hs.p2.bufr.arr.cap.1
    have hlen : ((SL.map St.f).drop (1 * 1)).length = (SL.length - 1) * 1 := by simp
    obtain ⟨v1, H1, ha, ho, hsm, hf⟩ := app_nil (eb := 8) (firsts_arr arr) hlen (by rw [← List.map_drop]; exact f_one _) (by omega)
    have h1 := hs.lst hsm ho hf
    obtain ⟨xa, xc, xe, rfl⟩ := h1.own.arr.shape
    obtain ⟨H2, e2, h2⟩ := h1.sto 1 (o := 1) (vs := [.sl xa (SL.length - 1) xc xe]) rfl (by simp) rfl
    have h3 : Hs H2 (DocL d vp (.sl xa (SL.length - 1) xc xe) PL (SL.drop 1) (S.as d ++ T)) := by
      have h4 := Hs.p2 (Hs.p2 (Hs.tail (Hs.p3 h2.buf)))
      have h5 := drop_steps (d := d) (SL := SL) (A := Cel d [vp, .sl xa (SL.length - 1) xc xe] :: Buf vp 1 PL.length (PL.map MR.c) :: Buf (.sl xa (SL.length - 1) xc xe) 1 (SL.length - 1) ((SL.map St.f).drop (1 * 1)) :: PL.map MR.as) h4
      unfold DocL
      rw [List.map_drop, List.length_drop]
      exact h5
    obtain ⟨v2, H3, ha3, H4, e4, h4⟩ := step_on h3 (by simp; omega)
    obtain ⟨a2, ac2, ae2, rfl⟩ := h4.p2.bufr.arr.shape
    have c2 := rd_s h3.cel
    obtain ⟨g, fa, fb, hSf⟩ := f_fn S
    rw [hSf] at ha3 ⊢
    simp -implicitDefEqProofs -dsimp (disch := omega) only [go_sem, Nat.reduceEqDiff, ↓reduceIte, Nat.reduceAdd, Nat.reduceMul, Nat.reduceSub, Nat.reduceLT, Nat.reduceLeDiff, Int.reduceLT, Int.reduceLE, Int.reduceEq, Int.reduceNeg, Int.reduceAdd, Int.reduceMul, Int.reduceSub, Int.reduceToNat, reduceCtorEq, dec_t, dec_f, c0, ha, e2, c2, ha3, e4, Nat.mul_one, Nat.one_mul]
    exact hQ _ _ h4
  · rw [if_neg k] at hQ
    obtain ⟨v2, H3, ha3, H4, e4, h4⟩ := step_on hs hl
    obtain ⟨a2, ac2, ae2, rfl⟩ := h4.p2.bufr.arr.shape
    obtain ⟨a, c, e, rfl⟩ := hs.p2.bufr.arr.shape
    obtain ⟨g, fa, fb, hSf⟩ := f_fn S
    rw [hSf] at ha3 ⊢
    simp -implicitDefEqProofs -dsimp (disch := omega) only [go_sem, Nat.reduceEqDiff, ↓reduceIte, Nat.reduceAdd, Nat.reduceMul, Nat.reduceSub, Nat.reduceLT, Nat.reduceLeDiff, Int.reduceLT, Int.reduceLE, Int.reduceEq, Int.reduceNeg, Int.reduceAdd, Int.reduceMul, Int.reduceSub, Int.reduceToNat, reduceCtorEq, dec_t, dec_f, c0, ha3, e4]
    exact hQ _ _ h4
end
end Go.Ab
