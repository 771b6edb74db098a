/- A region that draws its order: each step of each order. Conditions: as before. -/
import Derived.Test.YtdkgdneiilnppaaAl
set_option linter.all false
namespace Go.Ab
variable {L : Lk} {P : Program}
section
variable {nd : Nat → Bool} {nt : Nat} {ops : Array Oper} {ι0 : Im} {H0 : Heap} {w0 : World} {X : Fr → V → Heap → Prop} {K : Fr → Heap → Prop}
variable {tab : List (Nat × Msk)} {done : List AOper} {last : Option Nat} {cl : List AOper} {pend : List Pe} {fs fr : Fr} {H : Heap} {ι : Im} {listed : Array Bool} {a : Act} {w : World}

/-- Behind a pending operation that the model has carried out now. -/
theorem Inv.took {l1 l2 : List Pe} {p : Pe} {x' : Value} {ι' : Im} {w' : World} (h : Inv L P nd nt ops ι0 H0 w0 X K tab done last cl (l1 ++ p :: l2) fs fr H ι listed a w) (hr : p.x.ix ∈ Region.ready .any ops listed)
    (hs : Sim L ι' H w') (hx : Ext ι0 H0 w0 ι' H w') (hle : ILe ι ι') (hv : Rel L ι' p.v x') (hι : ∀ b, p.b ≠ some b → ι b = none → ι' b = none) :
    Inv L P nd nt ops ι0 H0 w0 X K tab done last cl (l1 ++ l2) (fs.put p.x.dst p.v) fr H ι' (listed.setIfInBounds p.x.ix true) (a.put p.x.dst x') w' := by
  have hpm : p ∈ l1 ++ p :: l2 := by simp
  have sub : ∀ q ∈ l1 ++ l2, q ∈ l1 ++ p :: l2 := fun q hq => by
    rcases List.mem_append.1 hq with hq | hq
    · exact List.mem_append_left _ hq
    · exact List.mem_append_right _ (List.mem_cons_of_mem _ hq)
  have hnd := h.pnodup
  simp only [List.map_append, List.map_cons] at hnd
  have hne : ∀ q ∈ l1 ++ l2, q.x.ix ≠ p.x.ix := fun q hq e => by
    rw [List.nodup_append] at hnd
    obtain ⟨n1, n2, n3⟩ := hnd
    rcases List.mem_append.1 hq with hq | hq
    · exact n3 q.x.ix (List.mem_map_of_mem hq) p.x.ix List.mem_cons_self e
    · exact (List.nodup_cons.1 n2).1 (by rw [← e]; exact List.mem_map_of_mem hq)
  have split : ∀ q ∈ l1 ++ p :: l2, q = p ∨ q ∈ l1 ++ l2 := fun q hq => by
    rcases List.mem_append.1 hq with hq | hq
    · exact .inr (List.mem_append_left _ hq)
    · rcases List.mem_cons.1 hq with rfl | hq
      · exact .inl rfl
      · exact .inr (List.mem_append_right _ hq)
  obtain ⟨o, ho, hck⟩ := h.opers _ (h.pdone p hpm)
  have hlt : p.x.ix < ops.size := (Array.getElem?_eq_some_iff.1 ho).1
  obtain ⟨_, hdlt, _, _⟩ := ckOper_spec hck
  have hself : ∀ q ∈ l1 ++ l2, ∀ t, p.x.dst = some t → q.x.dst ≠ some t := fun q hq t ht =>
    sameDst_spec (h.dsts _ (h.pdone p hpm) _ (h.pdone q (sub q hq)) (fun e => hne q hq e.symm)) t ht
  refine {
    ck := h.ck, tab_ := h.tab_, topo := h.topo, opers := h.opers, dix := h.dix, dsts := h.dsts, conf := h.conf, cover := h.cover, clix := h.clix, lsize := by simp [h.lsize], closed := h.closed.set hr,
    ldone := fun y hy => ?_, lpend := fun q hq => ?_, lcl := fun y hy => ?_, pdone := fun q hq => h.pdone q (sub q hq), plate := fun q hq => h.plate q (sub q hq), pnodup := ?_, pb := fun q hq r hr => h.pb q (sub q hq) r (sub r hr),
    pval := fun q hq => ?_, noself := fun q hq => h.noself q (sub q hq), p6a := fun q hq r hr => h.p6a q (sub q hq) r (sub r hr), p6b := fun q hq t ht hno => ?_, p9 := fun q hq => h.p9 q (sub q hq), f7a := fun t hno => ?_, f7b := fun q hq => h.f7b q (sub q hq),
    fds := ?_, run := h.run, sim0 := h.sim0, sim := hs, ext := hx, ok := (h.ok.mono hle).put hdlt hv }
  · rcases h.ldone y hy with h1 | ⟨q, hq, e⟩
    · exact .inl (getD_set_true h1)
    · rcases split q hq with rfl | hq
      · subst e; left; simp [h.lsize, hlt]
      · exact .inr ⟨q, hq, e⟩
  · rw [getD_set_ne false (fun e => hne q hq e.symm)]; exact h.lpend q (sub q hq)
  · have : p.x.ix ≠ y.ix := ckD_fresh cl h.tab_ h.ck y hy p.x (h.pdone p hpm)
    rw [getD_set_ne false this]; exact h.lcl y hy
  · rw [List.map_append]
    rw [List.nodup_append] at hnd ⊢
    obtain ⟨n1, n2, n3⟩ := hnd
    exact ⟨n1, (List.nodup_cons.1 n2).2, fun x hx y hy => n3 x hx y (List.mem_cons_of_mem _ hy)⟩
  · rcases h.pval q (sub q hq) with h1 | ⟨hw, h1 | ⟨f, cs, mk, b, e1, e2, e3, e4, e5, e6, e7⟩⟩
    · exact .inl h1
    · exact .inr ⟨hw, .inl h1⟩
    · exact .inr ⟨hw, .inr ⟨f, cs, mk, b, e1, e2, e3, hι b (fun e => h.pb q (sub q hq) p hpm (hne q hq) b e1 e) e4, e5, e6, e7⟩⟩
  · rw [frput_get]
    by_cases ht2 : p.x.dst = some t
    · rw [if_pos ht2]
      rcases h.conf p.x (h.pdone p hpm) q.x (h.pdone q (sub q hq)) (fun e => hne q hq e.symm) (dstIn_of ht2 ht) with ha | ha
      · exact (h.p6a q (sub q hq) p hpm ha t ht2 ht).symm
      · have := ha.ready h.closed hr
        rw [h.lpend q (sub q hq)] at this; cases this
    · rw [if_neg ht2]
      refine h.p6b q (sub q hq) t ht (fun r hr ha => ?_)
      rcases split r hr with rfl | hr
      · exact ht2
      · exact hno r hr ha
  · rw [frput_get]
    by_cases ht2 : p.x.dst = some t
    · rw [if_pos ht2]; exact (h.f7b p hpm t ht2).symm
    · rw [if_neg ht2]
      refine h.f7a t (fun r hr => ?_)
      rcases split r hr with rfl | hr
      · exact ht2
      · exact hno r hr
  · rw [← h.fds]; cases p.x.dst <;> rfl

theorem fr_agree {p : Pe} (h : Inv L P nd nt ops ι0 H0 w0 X K tab done last cl pend fs fr H ι listed a w) (hp : p ∈ pend) (hr : p.x.ix ∈ Region.ready .any ops listed) : ∀ t ∈ p.x.names, fs.get t = p.fi.get t := by
  intro t ht
  refine h.p6b p hp t ht (fun q hq ha _ => ?_)
  have := ha.ready h.closed hr
  rw [h.lpend q hq] at this; cases this

/-- The model carries out a pending operation. -/
theorem Inv.exec {p : Pe} {Q' : Exit → Act → World → Prop} {K' : Act → World → Prop} (h : Inv L P nd nt ops ι0 H0 w0 X K tab done last cl pend fs fr H ι listed a w) (hp : p ∈ pend) (hr : p.x.ix ∈ Region.ready .any ops listed)
    (hK : ∀ l1 l2 fs' ι' a' w', pend = l1 ++ p :: l2 → Inv L P nd nt ops ι0 H0 w0 X K tab done last cl (l1 ++ l2) fs' fr H ι' (listed.setIfInBounds p.x.ix true) a' w' → K' a' w') : wpOp P ops Q' p.x.ix K' a w := by
  obtain ⟨l1, l2, hsp⟩ := List.append_of_mem hp
  subst hsp
  have hag := fr_agree h hp hr
  obtain ⟨o, ho, hck⟩ := h.opers _ (h.pdone p hp)
  obtain ⟨hd, hdlt, hg, hop⟩ := ckOper_spec hck
  unfold wpOp
  rw [ho]
  dsimp only
  have hreads : Agree fs p.fi p.x.op.reads := fun t ht => hag t (List.mem_append_left _ ht)
  -- the guard, as the model sees it
  have hguard : ∀ t want b, p.x.g = some (t, want) → p.fi.get t = some (.bool b) → Region.wanted o (yielded ops a.tmps) = (b == want) := by
    intro t want b e1 e2
    have ht : t ∈ p.x.names := by unfold AOper.names; rw [e1]; exact List.mem_append_right _ (by simp)
    rw [← hag t ht] at e2
    obtain ⟨v', k1, k2⟩ := h.ok.tm t _ e2
    cases k2
    rw [e1] at hg
    cases hog : o.guard with
    | none => rw [hog] at hg; simp [ckGuard] at hg
    | some g' =>
      obtain ⟨j, want'⟩ := g'
      rw [hog] at hg
      simp only [ckGuard, Bool.and_eq_true, beq_iff_eq] at hg
      obtain ⟨rfl, hj⟩ := hg
      exact wanted_some hog hj k1
  have hoff : ∀ t want, p.x.g = some (t, want) → p.fi.get t = some (.tup []) → Region.wanted o (yielded ops a.tmps) = false := by
    intro t want e1 e2
    have ht : t ∈ p.x.names := by unfold AOper.names; rw [e1]; exact List.mem_append_right _ (by simp)
    rw [← hag t ht] at e2
    obtain ⟨v', k1, vs, k2, k3⟩ := h.ok.tm t _ e2
    rw [e1] at hg
    cases hog : o.guard with
    | none => rw [hog] at hg; simp [ckGuard] at hg
    | some g' =>
      obtain ⟨j, want'⟩ := g'
      rw [hog] at hg
      simp only [ckGuard, Bool.and_eq_true, beq_iff_eq] at hg
      obtain ⟨rfl, hj⟩ := hg
      exact wanted_off hog hj (by rw [k1, k2]) (fun b e => by cases e)
  rcases h.pval p hp with ⟨⟨t, want, e1, e2⟩, hv, hb⟩ | ⟨hw, hval⟩
  · have : Region.wanted o (yielded ops a.tmps) = false := by
      rcases e2 with e2 | e2
      · rw [hguard t want _ e1 e2]; cases want <;> rfl
      · exact hoff t want e1 e2
    rw [if_neg (by simp [this])]
    have := h.took (x' := undef) hr h.sim h.ext (ILe.refl _) (by rw [hv]; exact ⟨#[], rfl, rfl⟩) (fun b _ e => e)
    rw [← hd]
    exact hK l1 l2 _ _ _ _ rfl this
  · have hwant : Region.wanted o (yielded ops a.tmps) = true := by
      rcases hw with hw | ⟨t, want, e1, e2⟩
      · rw [hw] at hg
        cases hog : o.guard with
        | none => exact wanted_none hog _
        | some g' => rw [hog] at hg; simp [ckGuard] at hg
      · rw [hguard t want _ e1 e2]; simp
    rw [if_pos hwant]
    left
    have hlate : late p.x.op = true := by
      rcases h.plate p hp with hl | ⟨t, want, e1, e2⟩
      · exact hl
      · exfalso
        rcases hw with hw | ⟨t', want', e3, e4⟩
        · rw [hw] at e1; cases e1
        · rw [e1] at e3; cases e3; rw [e4] at e2; rcases e2 with e2 | e2 <;> cases want <;> cases e2
    have hckS : ckS L P p.x.op o.op = true := by
      revert hop hlate; cases p.x.op <;> intro hop hlate <;> first | (cases hlate; done) | exact hop
    rcases hval with ⟨hnf, hb, hst⟩ | ⟨hf, cs, mk, b, hb, hfr, hv, hιb, hbn, hb0, hgb⟩
    · have hst' : step fs H p.x.op = some (p.v, H) := by rw [step_agree hreads]; exact hst
      have hckQ : ckQ L P p.x.op o.op = true := by
        simp only [ckS, Bool.or_eq_true] at hckS
        rcases hckS with (hc | hc) | hc
        · exact hc
        · exfalso; revert hc hnf; cases p.x.op <;> simp [ckF, isFresh]
        · exfalso; revert hc hlate; cases p.x.op <;> simp [ckW, late, pureOp, isLoad, isFresh]
      obtain ⟨_, v', hy, hrel⟩ := quiet_sound (P := P) h.ok.tm h.sim p.x.op o p.v H hckQ hst'
      have := h.took (x' := v') hr h.sim h.ext (ILe.refl _) hrel (fun b _ e => e)
      unfold Oper.wp
      rw [show (execOp a.eval o).run P w = .ok (.value v') w from hy]
      show K' (a.put o.dst v') w
      rw [← hd]
      exact hK l1 l2 _ _ _ _ rfl this
    · have hfr' : fresh fs p.x.op = some (cs, mk) := by rw [fresh_agree hreads]; exact hfr
      have hckF : ckF L P p.x.op o.op = true := by
        simp only [ckS, Bool.or_eq_true] at hckS
        rcases hckS with (hc | hc) | hc
        · exfalso; revert hc hf; cases p.x.op <;> simp [ckQ, isFresh]
        · exact hc
        · exfalso; revert hc hlate; cases p.x.op <;> simp [ckW, late, pureOp, isLoad, isFresh]
      obtain ⟨arr, ty, v', r1, r2, r3⟩ := (fresh_sound (ι := ι) (w := w) h.ok.tm hckF hfr').ex
      obtain ⟨s2, x2⟩ := Sim.lay ty h.sim0 h.sim h.ext hb0 hιb hbn hgb (by rw [r2.length, Array.length_toList]; exact Nat.le_refl _) (fun i v hv => by
        obtain ⟨v', q1, q2⟩ := r2.get hv
        exact ⟨v', by rw [Array.getElem?_toList] at q1; exact q1, q2⟩)
      have hrel : Rel L (upd ι b w.heap.size 0 arr.size) p.v v' := by rw [hv]; exact r3 _ _ (by unfold Ab.upd; exact if_pos rfl)
      have := h.took (x' := v') hr s2 x2 (ILe.upd hιb) hrel (fun b' hb' e => by
        unfold Ab.upd; rw [if_neg (fun e2 => hb' (by rw [hb, e2]))]; exact e)
      unfold Oper.wp
      rw [r1]
      show K' (a.put o.dst v') (pushW w arr ty)
      rw [← hd]
      exact hK l1 l2 _ _ _ _ rfl this

end
end Go.Ab
