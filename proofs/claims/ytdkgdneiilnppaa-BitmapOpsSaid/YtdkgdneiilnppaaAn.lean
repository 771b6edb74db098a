/- A region that draws its order: a writing operation, and all orders. Conditions: as before. -/
import Derived.Test.YtdkgdneiilnppaaAm
set_option linter.all false
namespace Go.Ab
variable {L : Lk} {P : Program}

theorem getD_replicate (m j : Nat) : (Array.replicate m false).getD j false = false := by
  rcases Nat.lt_or_ge j m with h | h <;> simp [h]

theorem rechecks_spec {fr : Fr} {H : Heap} {re : List Nat} : ∀ {acc : List AOper}, rechecks fr H re acc → ∀ y ∈ acc, re.contains y.ix = true →
    (∃ t want, y.g = some (t, want) ∧ (fr.get t = some (.bool !want) ∨ fr.get t = some (.tup []))) ∨ recheck fr H y
  | [], _, y, hy, _ => by simp at hy
  | z :: acc, h, y, hy, hc => by
    rcases List.mem_cons.1 hy with rfl | hy
    · have := h.1
      rw [if_pos hc] at this
      rcases this with h1 | h1
      · cases hg : y.g with
        | none => rw [hg] at h1; exact h1.elim
        | some g => obtain ⟨t, want⟩ := g; rw [hg] at h1; exact .inl ⟨t, want, rfl, h1⟩
      · exact .inr h1
    · exact rechecks_spec h.2 y hy hc

section
variable {nd : Nat → Bool} {nt : Nat} {ops : Array Oper} {ι0 : Im} {H0 : Heap} {w0 : World} {X : Fr → V → Heap → Prop} {K : Fr → Heap → Prop}
variable {tab : List (Nat × Msk)} {done : List AOper} {last : Option Nat} {cl : List AOper} {pend : List Pe} {fs fr : Fr} {H : Heap} {ι : Im} {listed : Array Bool} {a : Act} {w : World}

theorem not_anc {p : Pe} {k : AOper} {r : List AOper} (h : Inv L P nd nt ops ι0 H0 w0 X K tab done last (k :: r) pend fs fr H ι listed a w) (hp : p ∈ pend) (hr : k.ix ∈ Region.ready .any ops listed) : ¬ Anc ops p.x.ix k.ix := fun ha => by
  have := ha.ready h.closed hr
  rw [h.lpend p hp] at this; cases this

/-- Behind a writing operation. -/
theorem Inv.wrote {k : AOper} {r : List AOper} {o : Oper} {v : V} {fs' fr' : Fr} {H' : Heap} {ι' : Im} {a' : Act} {w' : World} (h : Inv L P nd nt ops ι0 H0 w0 X K tab done last (k :: r) pend fs fr H ι listed a w)
    (c : CkStep L P nt ops tab done last k r o) (hl : late k.op = false) (hr : k.ix ∈ Region.ready .any ops listed)
    (hs : Sim L ι' H' w') (hx : Ext ι H w ι' H' w') (hok : FrOk L nt ι' fs' a') (htm : fs'.tm = (fs.put k.dst v).tm) (htr : fr'.tm = (fr.put k.dst v).tm) (hds : fs'.ds = fr'.ds)
    (hre : k.re = [] ∨ rechecks fr' H' k.re done) (hrun : evD (SC L P nd) X K (k :: done) r fr' H') :
    ∃ tab' last', Inv L P nd nt ops ι0 H0 w0 X K tab' (k :: done) last' r pend fs' fr' H' ι' (listed.setIfInBounds k.ix true) a' w' := by
  have gs : ∀ t, fs'.get t = if k.dst = some t then some v else fs.get t := fun t => by rw [← frput_get]; show look fs'.tm t = _; rw [htm]; rfl
  have gr : ∀ t, fr'.get t = if k.dst = some t then some v else fr.get t := fun t => by rw [← frput_get]; show look fr'.tm t = _; rw [htr]; rfl
  have hxd : ∀ p ∈ pend, p.x.ix ≠ k.ix := fun p hp => c.fresh _ (h.pdone p hp)
  have hpd : ∀ p ∈ pend, ∀ t, k.dst = some t → p.x.dst ≠ some t := fun p hp t ht => sameDst_spec (c.dsts _ (h.pdone p hp)) t ht
  have hpn : ∀ p ∈ pend, ∀ t ∈ p.x.names, k.dst ≠ some t := fun p hp t ht e =>
    not_anc h hp hr (c.conf p.x (h.pdone p hp) (.inl (dstIn_of e ht)))
  have hklt : k.ix < ops.size := (Array.getElem?_eq_some_iff.1 c.at_).1
  refine ⟨_, _, {
    ck := c.rest, tab_ := c.tab_, topo := ⟨fun o' ho' e he hb => ?_, h.topo⟩, opers := fun y hy => ?_, dix := fun y hy z hz e => ?_, dsts := fun y hy z hz e => ?_, conf := fun y hy z hz e hc => ?_,
    cover := fun j hj => ?_, clix := fun y hy => h.clix y (List.mem_cons_of_mem _ hy), lsize := by simp [h.lsize], closed := h.closed.set hr, ldone := fun y hy => ?_, lpend := fun p hp => ?_,
    lcl := fun y hy => ?_, pdone := fun p hp => List.mem_cons_of_mem _ (h.pdone p hp), plate := h.plate, pnodup := h.pnodup, pb := h.pb, pval := fun p hp => ?_, noself := h.noself, p6a := h.p6a, p6b := fun p hp t ht hno => ?_,
    p9 := fun p hp t ht hno hne => ?_, f7a := fun t hno => ?_, f7b := fun p hp t ht => ?_, fds := hds, run := hrun, sim0 := h.sim0, sim := hs, ext := h.ext.trans h.sim0 h.sim hx, ok := hok }⟩
  · rw [c.at_] at ho'; cases ho'; exact c.edges e he hb
  · rcases List.mem_cons.1 hy with rfl | hy
    · exact ⟨o, c.at_, c.oper⟩
    · exact h.opers y hy
  · rcases List.mem_cons.1 hy with rfl | hy2 <;> rcases List.mem_cons.1 hz with rfl | hz2
    · rfl
    · exact absurd e.symm (c.fresh z hz2)
    · exact absurd e (c.fresh y hy2)
    · exact h.dix y hy2 z hz2 e
  · rcases List.mem_cons.1 hy with rfl | hy2 <;> rcases List.mem_cons.1 hz with rfl | hz2
    · exact absurd rfl e
    · exact c.dsts z hz2
    · have := c.dsts y hy2
      cases hyd : y.dst with
      | none => simp [sameDst, hyd]
      | some t => cases hzd : z.dst with
        | none => simp [sameDst, hyd, hzd]
        | some u => simp only [sameDst, hyd, hzd] at this ⊢; simp at this ⊢; exact fun he => this he.symm
    · exact h.dsts y hy2 z hz2 e
  · rcases List.mem_cons.1 hy with rfl | hy2 <;> rcases List.mem_cons.1 hz with rfl | hz2
    · exact absurd rfl e
    · exact .inr (c.conf z hz2 (.inl hc))
    · exact .inl (c.conf y hy2 (.inr hc))
    · exact h.conf y hy2 z hz2 e hc
  · rcases h.cover j hj with ⟨y, hy, e⟩ | ⟨y, hy, e⟩
    · exact .inl ⟨y, List.mem_cons_of_mem _ hy, e⟩
    · rcases List.mem_cons.1 hy with rfl | hy
      · exact .inl ⟨y, List.mem_cons_self, e⟩
      · exact .inr ⟨y, hy, e⟩
  · rcases List.mem_cons.1 hy with rfl | hy
    · left; simp [h.lsize, hklt]
    · rcases h.ldone y hy with h1 | h1
      · exact .inl (getD_set_true h1)
      · exact .inr h1
  · rw [getD_set_ne false (fun e => hxd p hp e.symm)]; exact h.lpend p hp
  · have : k.ix ≠ y.ix := by
      have := ckD_fresh r c.tab_ c.rest y hy k List.mem_cons_self
      exact this
    rw [getD_set_ne false this]; exact h.lcl y (List.mem_cons_of_mem _ hy)
  · -- what is known of a pending one
    rcases h.pval p hp with h1 | ⟨hw, h1⟩
    · exact .inl h1
    · have hlp : late p.x.op = true := by
        rcases h.plate p hp with hl | ⟨t, want, e1, e2⟩
        · exact hl
        · exfalso
          rcases hw with hw | ⟨t', want', e3, e4⟩
          · rw [hw] at e1; cases e1
          · rw [e1] at e3; cases e3; rw [e4] at e2; rcases e2 with e2 | e2 <;> cases want <;> cases e2
      refine .inr ⟨hw, ?_⟩
      have key : (isLoad p.x.op = true ∨ isFresh p.x.op = true) → recheck fr' H' p.x ∧ Agree fr' p.fi p.x.op.reads ∧ ∃ t, p.x.dst = some t ∧ fr'.get t = some p.v := by
        intro hcl
        obtain ⟨q1, q2, q3⟩ := c.re hl p.x (h.pdone p hp) hcl (not_anc h hp hr)
        have hag : ∀ t ∈ p.x.names, p.x.dst ≠ some t → fr'.get t = p.fi.get t := fun t ht hne => by
          rw [gr, if_neg (hpn p hp t ht)]
          exact h.p9 p hp t ht (fun z hz e => dstIn_spec (q3 z hz) t e ht) hne
        have hrc : (∃ t want, p.x.g = some (t, want) ∧ (fr'.get t = some (.bool !want) ∨ fr'.get t = some (.tup []))) ∨ recheck fr' H' p.x := by
          rcases hre with hre | hre
          · rw [hre] at q1; simp at q1
          · exact rechecks_spec hre p.x (h.pdone p hp) q1
        obtain ⟨t0, hd0⟩ : ∃ t, p.x.dst = some t := by
          rcases hrc with ⟨t, want, e1, e2⟩ | hrc
          · cases hdd : p.x.dst with
            | some t => exact ⟨t, rfl⟩
            | none =>
              exfalso
              have ht : t ∈ p.x.names := by unfold AOper.names; rw [e1]; exact List.mem_append_right _ (by simp)
              rw [hag t ht (by rw [hdd]; simp)] at e2
              rcases hw with hw | ⟨t', want', e3, e4⟩
              · rw [hw] at e1; cases e1
              · rw [e1] at e3; cases e3; rw [e4] at e2; rcases e2 with e2 | e2 <;> cases want <;> cases e2
          · unfold recheck at hrc
            cases hdd : p.x.dst with
            | some t => exact ⟨t, rfl⟩
            | none => rw [hdd] at hrc; exact hrc.elim
        have hself : ∀ t ∈ p.x.names, p.x.dst ≠ some t := h.noself p hp
        refine ⟨?_, fun t ht => hag t (List.mem_append_left _ ht) (hself t (List.mem_append_left _ ht)), t0, hd0, ?_⟩
        · rcases hrc with ⟨t, want, e1, e2⟩ | hrc
          · exfalso
            have ht : t ∈ p.x.names := by unfold AOper.names; rw [e1]; exact List.mem_append_right _ (by simp)
            rw [hag t ht (hself t ht)] at e2
            rcases hw with hw | ⟨t', want', e3, e4⟩
            · rw [hw] at e1; cases e1
            · rw [e1] at e3; cases e3; rw [e4] at e2; rcases e2 with e2 | e2 <;> cases want <;> cases e2
          · exact hrc
        · rw [gr, if_neg (fun e => hpd p hp t0 e hd0)]; exact h.f7b p hp t0 hd0
      rcases h1 with ⟨f, hb, hst⟩ | ⟨f, cs, mk, b, e1, e2, e3, e4, e5, e6, e7⟩
      · refine .inl ⟨f, hb, ?_⟩
        by_cases hp2 : pureOp p.x.op = true
        · exact (pure_step hp2 hst).2
        · have hld : isLoad p.x.op = true := by
            simp only [late, Bool.or_eq_true, f, Bool.false_eq_true, or_false] at hlp
            exact hlp.resolve_left hp2
          obtain ⟨k1, k2, t, k3, k4⟩ := key (.inl hld)
          unfold recheck at k1
          rw [k3] at k1
          dsimp only at k1
          have hnf : fresh fr' p.x.op = none := by cases hop : p.x.op <;> rw [hop] at hld <;> simp [isLoad] at hld <;> rfl
          rw [hnf] at k1
          obtain ⟨u, m1, m2⟩ := k1
          rw [k4] at m1; cases m1
          rw [step_agree k2] at m2; exact m2
      · obtain ⟨k1, k2, t, k3, k4⟩ := key (.inr f)
        unfold recheck at k1
        rw [k3] at k1
        dsimp only at k1
        rw [fresh_agree k2, e2] at k1
        obtain ⟨b', m1, m2⟩ := k1
        rw [k4, e3] at m1
        have hbb : b = b' := fresh_inj e2 (Option.some.inj m1)
        subst hbb
        exact .inr ⟨f, cs, mk, b, e1, e2, e3, hx.dom b e5 e4, Nat.lt_of_lt_of_le e5 hx.hn, e6, m2⟩
  · rw [gs, if_neg (hpn p hp t ht)]; exact h.p6b p hp t ht hno
  · have e : (k :: done).takeWhile (fun z => z.ix != p.x.ix) = k :: done.takeWhile (fun z => z.ix != p.x.ix) := by
      rw [List.takeWhile_cons, if_pos (by simp; exact fun e => hxd p hp e.symm)]
    rw [e] at hno
    rw [gr, if_neg (hno k List.mem_cons_self)]
    exact h.p9 p hp t ht (fun z hz => hno z (List.mem_cons_of_mem _ hz)) hne
  · rw [gs, gr]; split
    · rfl
    · exact h.f7a t hno
  · rw [gr, if_neg (fun e => hpd p hp t e ht)]; exact h.f7b p hp t ht


theorem wants_or_skips {k : AOper} {acc r : List AOper} (h : evD (SC L P nd) X K acc (k :: r) fr H) (hs : ¬ Skips fr k) :
    Wants fr k ∧ evOp (SC L P nd) fr H k (fun fr' H' => (k.re = [] ∨ rechecks fr' H' k.re acc) ∧ evD (SC L P nd) X K (k :: acc) r fr' H') (X fr) := by
  unfold evD at h
  cases hg : k.g with
  | none => rw [hg] at h; exact ⟨.inl hg, h⟩
  | some g =>
    obtain ⟨t, want⟩ := g
    rw [hg] at h
    dsimp only at h
    split at h
    · rename_i b hb
      unfold gif at h
      split at h
      · rename_i hbw
        have : b = want := by simpa using hbw
        subst this
        exact ⟨.inr ⟨t, b, hg, hb⟩, h⟩
      · rename_i hbw
        have : b = !want := by cases b <;> cases want <;> simp_all
        subst this
        exact absurd ⟨t, want, hg, .inl hb⟩ hs
    · rename_i hb
      exact absurd ⟨t, want, hg, .inr hb⟩ hs
    · exact h.elim

/-- A writing operation says the same of a frame that agrees on what it reads. -/
theorem evOp_agree {C : CallT} {k : AOper} {KK : Fr → Heap → Prop} {XX : V → Heap → Prop} (hl : late k.op = false) (hag : Agree fs fr k.op.reads) (hds : fs.ds = fr.ds) (hC : CLe C C) (h : evOp C fr H k KK XX) :
    evOp C fs H k (fun fs' H' => ∃ v fr', fs'.tm = (fs.put k.dst v).tm ∧ fr'.tm = (fr.put k.dst v).tm ∧ fs'.ds = fr'.ds ∧ KK fr' H') XX := by
  have pds : ∀ v, (fs.put k.dst v).ds = (fr.put k.dst v).ds := fun v => by cases k.dst <;> exact hds
  unfold evOp at h ⊢
  cases hop : k.op <;> rw [hop] at hl hag h <;> simp only [late, pureOp, isLoad, isFresh, Bool.or_false, Bool.or_self, Bool.true_or, Bool.or_true] at hl <;> simp only at h ⊢
  all_goals try (cases hl; done)
  case call f args =>
    rw [callee_agree hag]
    split at h
    · refine hC _ _ _ _ _ (fun o H' ho => ?_) h
      cases o with
      | ret v => exact ⟨v, fr.put k.dst v, rfl, rfl, pds v, ho⟩
      | pan v => exact ho
    · exact h
  case dfr f args =>
    rw [callee_agree hag]
    split at h
    · rename_i g l _
      exact ⟨.un, ⟨(fr.put k.dst .un).tm, (g, l) :: fr.ds⟩, rfl, rfl, by simp [hds], h⟩
    · exact h
  case pan x =>
    rw [opd_agree (x := x) hag]
    exact h
  all_goals
    rw [step_agree hag]
    split at h
    · rename_i v H' _; exact ⟨v, _, rfl, rfl, pds v, h⟩
    · exact h

theorem SC_le : CLe (SC L P nd) (SC L P nd) := by
  intro g l H Q Q' hQ h hd ι w args s r
  obtain ⟨h1, h2⟩ := h hd ι w args s r
  have up : ∀ e w', CP L ι H w Q e w' → CP L ι H w Q' e w' := by
    rintro e w' ⟨ι', H', s', x', hm⟩
    refine ⟨ι', H', s', x', ?_⟩
    cases e with
    | returned v' => obtain ⟨v, a, b⟩ := hm; exact ⟨v, a, hQ _ _ b⟩
    | panicked chain => obtain ⟨v, v', a, b, c⟩ := hm; exact ⟨v, v', a, b, hQ _ _ c⟩
    | outgrown => exact hm
  exact ⟨h1.mono up, fun hn u => (h2 hn u).mono fun e u' w' he => ⟨he.1, up _ _ he.2⟩⟩

/-- Something is ready, as long as anything is left. -/
theorem Inv.some_ready (h : Inv L P nd nt ops ι0 H0 w0 X K tab done last cl pend fs fr H ι listed a w) (hne : pend ≠ [] ∨ cl ≠ []) : Region.ready .any ops listed ≠ [] := by
  have mk : ∀ (x : AOper) (o : Oper), ops[x.ix]? = some o → listed.getD x.ix false = false → (∀ e ∈ o.after, Region.binds .any e = true → listed.getD e.on false = true) → Region.ready .any ops listed ≠ [] := by
    intro x o ho hl he hnil
    have : x.ix ∈ Region.ready .any ops listed := by
      rw [mem_ready]
      refine ⟨?_, o, ho, he⟩
      have hlt : x.ix < listed.size := by rw [h.lsize]; exact (Array.getElem?_eq_some_iff.1 ho).1
      simp [hlt] at hl ⊢; exact hl
    rw [hnil] at this; cases this
  by_cases hp : pend = []
  · obtain ⟨k, r, rfl⟩ := List.exists_cons_of_ne_nil (hne.resolve_left (fun e => e hp))
    obtain ⟨o, c⟩ := ckD_step h.tab_ h.ck
    refine mk k o c.at_ (h.lcl k List.mem_cons_self) (fun e he hb => ?_)
    obtain ⟨y, hy, hye⟩ := c.edges e he hb
    rcases h.ldone y hy with h1 | ⟨p, hpp, _⟩
    · rw [← hye]; exact h1
    · rw [hp] at hpp; cases hpp
  · obtain ⟨p, ps, rfl⟩ := List.exists_cons_of_ne_nil hp
    -- the deepest one of 'done' that is not listed
    have deep : ∀ (l : List AOper), Topo ops l → (∀ y ∈ l, ∃ o, ops[y.ix]? = some o) → (∃ y ∈ l, listed.getD y.ix false = false) →
        ∃ y ∈ l, listed.getD y.ix false = false ∧ ∀ o, ops[y.ix]? = some o → ∀ e ∈ o.after, Region.binds .any e = true → listed.getD e.on false = true := by
      intro l ht ho hex
      induction l with
      | nil => obtain ⟨y, hy, _⟩ := hex; cases hy
      | cons x l ih =>
        by_cases hl : ∃ y ∈ l, listed.getD y.ix false = false
        · obtain ⟨y, hy, h1⟩ := ih ht.2 (fun y hy => ho y (List.mem_cons_of_mem _ hy)) hl
          exact ⟨y, List.mem_cons_of_mem _ hy, h1⟩
        · have all : ∀ y ∈ l, listed.getD y.ix false = true := fun y hy => by
            cases hx : listed.getD y.ix false with
            | true => rfl
            | false => exact absurd ⟨y, hy, hx⟩ hl
          obtain ⟨y, hy, h1⟩ := hex
          rcases List.mem_cons.1 hy with rfl | hy
          · refine ⟨y, List.mem_cons_self, h1, fun o ho' e he hb => ?_⟩
            obtain ⟨z, hz, hze⟩ := ht.1 o ho' e he hb
            rw [← hze]; exact all z hz
          · rw [all y hy] at h1; cases h1
    obtain ⟨y, hy, h1, h2⟩ := deep done h.topo (fun y hy => let ⟨o, ho, _⟩ := h.opers y hy; ⟨o, ho⟩) ⟨p.x, h.pdone p List.mem_cons_self, h.lpend p List.mem_cons_self⟩
    obtain ⟨o, ho, _⟩ := h.opers y hy
    exact mk y o ho h1 (h2 o ho)

theorem draw_main (kk : Linked0 L P) {Q : Post} (hK : ∀ fr H, K fr H → ∃ l, Q .normal (fr.keep l) H) (hX : ∀ fr v H, X fr v H → Q (.pan v) ⟨[], fr.ds⟩ H) :
    ∀ (n m : Nat) (tab : List (Nat × Msk)) (done : List AOper) (last : Option Nat) (cl : List AOper) (pend : List Pe) (fs fr : Fr) (H : Heap) (ι : Im) (listed : Array Bool) (a : Act) (w : World),
      pend.length + cl.length = n → cl.length = m → Inv L P nd nt ops ι0 H0 w0 X K tab done last cl pend fs fr H ι listed a w → wpAny P .any ops (LQ L nt ι0 H0 w0 Q) n listed a w := by
  intro n
  induction n with
  | zero =>
    intro m tab done last cl pend fs fr H ι listed a w hn hm h
    have hp : pend = [] := List.eq_nil_of_length_eq_zero (by omega)
    have hc : cl = [] := List.eq_nil_of_length_eq_zero (by omega)
    subst hp hc
    refine ⟨?_, ?_⟩
    · rw [List.eq_nil_iff_forall_not_mem]
      intro j hj
      obtain ⟨hl, o, ho, _⟩ := mem_ready.1 hj
      have hlt : j < ops.size := (Array.getElem?_eq_some_iff.1 ho).1
      rcases h.cover j hlt with ⟨y, hy, rfl⟩ | ⟨x, hx, _⟩
      · rcases h.ldone y hy with h1 | ⟨p, hp, _⟩
        · have hlt2 : y.ix < listed.size := by rw [h.lsize]; exact hlt
          simp [hlt2] at hl h1
          rw [hl] at h1; cases h1
        · cases hp
      · cases hx
    · obtain ⟨l, hq⟩ := hK _ _ h.run
      refine ⟨ι, fr.keep l, H, h.sim, h.ext, ?_, hq⟩
      have : FrRel L ι fr a.tmps := fun t v hv => h.ok.tm t v (by rw [h.f7a t (fun p hp => by cases hp)]; exact hv)
      exact ⟨h.ok.size, this.keep l, by have := h.ok.ds; rw [h.fds] at this; exact this⟩
  | succ n ihn =>
    intro m
    induction m with
    | zero =>
      intro tab done last cl pend fs fr H ι listed a w hn hm h
      have hc : cl = [] := List.eq_nil_of_length_eq_zero hm
      subst hc
      refine ⟨fun hr => absurd hr (h.some_ready (.inl (fun e => by subst e; simp at hn))), fun j hj => ?_⟩
      obtain ⟨hl, o, ho, _⟩ := mem_ready.1 hj
      have hlt : j < ops.size := (Array.getElem?_eq_some_iff.1 ho).1
      rcases h.cover j hlt with ⟨y, hy, rfl⟩ | ⟨x, hx, _⟩
      · rcases h.ldone y hy with h1 | ⟨p, hp, rfl⟩
        · have hlt2 : y.ix < listed.size := by rw [h.lsize]; exact hlt
          simp [hlt2] at hl h1
          rw [hl] at h1; cases h1
        · refine h.exec hp hj (fun l1 l2 fs' ι' a' w' e h' => ihn _ _ _ _ _ _ _ _ _ _ _ _ _ (by rw [e] at hn; simp at hn ⊢; omega) rfl h')
      · cases hx
    | succ m ihm =>
      intro tab done last cl pend fs fr H ι listed a w hn hm h
      obtain ⟨k, r, rfl⟩ := List.exists_cons_of_length_eq_add_one hm
      by_cases hlk : late k.op = true ∨ Skips fr k
      · obtain ⟨t', l', p, fr', H', h'⟩ := h.advance hlk
        exact ihm _ _ _ _ _ _ _ _ _ _ _ _ (by simp at hn ⊢; omega) (by simpa using hm) h'
      · have hl : late k.op = false := by
          cases hx : late k.op with
          | false => rfl
          | true => exact absurd (.inl hx) hlk
        have hns : ¬ Skips fr k := fun hs => hlk (.inr hs)
        refine ⟨fun hr => absurd hr (h.some_ready (.inr (by simp))), fun j hj => ?_⟩
        obtain ⟨hlj, o, ho, _⟩ := mem_ready.1 hj
        have hlt : j < ops.size := (Array.getElem?_eq_some_iff.1 ho).1
        rcases h.cover j hlt with ⟨y, hy, rfl⟩ | ⟨x, hx, rfl⟩
        · rcases h.ldone y hy with h1 | ⟨p, hp, rfl⟩
          · have hlt2 : y.ix < listed.size := by rw [h.lsize]; exact hlt
            simp [hlt2] at hlj h1
            rw [hlj] at h1; cases h1
          · exact h.exec hp hj (fun l1 l2 fs' ι' a' w' e h' => ihn _ _ _ _ _ _ _ _ _ _ _ _ _ (by rw [e] at hn; simp at hn ⊢; omega) rfl h')
        · obtain ⟨o', c⟩ := ckD_step h.tab_ h.ck
          rcases List.mem_cons.1 hx with rfl | hxr
          · -- the writing operation itself
            have hoo : o' = o := by have := c.at_; rw [ho] at this; exact (Option.some.inj this).symm
            subst hoo
            obtain ⟨hw, he⟩ := wants_or_skips h.run hns
            obtain ⟨hd, hdlt, hg, hop⟩ := ckOper_spec c.oper
            have hag : ∀ t ∈ x.names, fs.get t = fr.get t := fun t ht =>
              h.f7a t (fun p hp e => not_anc h hp hj (c.conf p.x (h.pdone p hp) (.inr (dstIn_of e ht))))
            have hwant : Region.wanted o' (yielded ops a.tmps) = true := by
              rcases hw with hw | ⟨t, want, e1, e2⟩
              · rw [hw] at hg
                cases hog : o'.guard with
                | none => exact wanted_none hog _
                | some g' => rw [hog] at hg; simp [ckGuard] at hg
              · have ht : t ∈ x.names := by unfold AOper.names; rw [e1]; exact List.mem_append_right _ (by simp)
                rw [← hag t ht] at e2
                obtain ⟨v', k1, k2⟩ := h.ok.tm t _ e2
                cases k2
                rw [e1] at hg
                cases hog : o'.guard with
                | none => rw [hog] at hg; simp [ckGuard] at hg
                | some g' =>
                  obtain ⟨j, want'⟩ := g'
                  rw [hog] at hg
                  simp only [ckGuard, Bool.and_eq_true, beq_iff_eq] at hg
                  obtain ⟨rfl, hj'⟩ := hg
                  rw [wanted_some hog hj' k1]; simp
            unfold wpOp
            rw [ho]
            dsimp only
            rw [if_pos hwant]
            left
            have he2 := evOp_agree (fs := fs) hl (fun t ht => hag t (List.mem_append_left _ ht)) h.fds SC_le he
            refine evOp_sound kk c.oper h.sim h.ok (fun ι' fs' H' a' w' s' x' hok hkk => ?_) (fun ι' H' w' v v' s' x' hv hx2 => ?_) he2
            · obtain ⟨v, fr', e1, e2, e3, e4, e5⟩ := hkk
              obtain ⟨t', l', h'⟩ := h.wrote c hl hj s' x' hok e1 e2 e3 e4 e5
              exact ihn _ _ _ _ _ _ _ _ _ _ _ _ _ (by simp at hn ⊢; omega) rfl h'
            · refine ⟨ι', ⟨[], fr.ds⟩, H', s', h.ext.trans h.sim0 h.sim x', ⟨h.ok.size, (fun t v h => by cases h), ?_⟩, v, v', rfl, hv, hX _ _ _ hx2⟩
              have := h.ok.ds.mono x'.le
              rw [h.fds] at this; exact this
          · have hr := c.rest
            rw [if_neg (by simp [hl])] at hr
            have hanc := ckD_last r c.tab_ (.inl rfl) hr x hxr
            have := hanc.ready h.closed hj
            rw [h.lcl k List.mem_cons_self] at this; cases this

/-- **A region that draws its order.** -/
theorem draw_sound (kk : Linked0 L P) {Q : Post} {id : Nat} {xs : List AOper} (hm : P.follows .mixedOrders = true) (hc : ckDraw L P nt ops xs = true) (hK : ∀ fr H, K fr H → ∃ l, Q .normal (fr.keep l) H)
    (hX : ∀ fr v H, X fr v H → Q (.pan v) ⟨[], fr.ds⟩ H) (s0 : Sim L ι0 H0 w0) (s : Sim L ι H w) (x : Ext ι0 H0 w0 ι H w) (hf : FrOk L nt ι fr a) (h : evD (SC L P nd) X K [] xs fr H) :
    (Code.region id ops true).wp P (LQ L nt ι0 H0 w0 Q) a w := by
  simp only [ckDraw, Bool.and_eq_true, beq_iff_eq] at hc
  obtain ⟨⟨hlen, hcov⟩, hck⟩ := hc
  refine wp_region_any hm ?_
  have sD : Sim L ι H { w with drawn := w.drawn + 1 } := ⟨s.dn, s.nx, s.lt, s.ok, s.inj⟩
  have xD : Ext ι0 H0 w0 ι H { w with drawn := w.drawn + 1 } := ⟨x.le, x.hs, x.hn, x.ro, x.new, x.kept, x.dom, x.os, x.tape, x.output⟩
  refine draw_main kk hK hX ops.size _ [] [] none xs [] fr fr H ι _ a _ (by simp [hlen]) rfl {
    ck := hck, tab_ := (fun i l hil => by cases hil), topo := trivial, opers := (fun y hy => by cases hy), dix := (fun y hy => by cases hy), dsts := (fun y hy => by cases hy), conf := (fun y hy => by cases hy),
    cover := fun j hj => ?_, clix := fun y hy => ?_, lsize := by simp, closed := fun j o ho hl => ?_, ldone := (fun y hy => by cases hy), lpend := (fun p hp => by cases hp), lcl := fun y hy => ?_,
    pdone := (fun p hp => by cases hp), plate := (fun p hp => by cases hp), pnodup := by simp, pb := (fun p hp => by cases hp), pval := (fun p hp => by cases hp), noself := (fun p hp => by cases hp),
    p6a := (fun p hp => by cases hp), p6b := (fun p hp => by cases hp), p9 := (fun p hp => by cases hp), f7a := fun _ _ => rfl, f7b := (fun p hp => by cases hp), fds := rfl, run := h, sim0 := s0, sim := sD, ext := xD, ok := hf }
  · rw [List.all_eq_true] at hcov
    have := hcov j (List.mem_range.2 hj)
    simp only [List.any_eq_true, beq_iff_eq] at this
    exact .inr this
  · -- each index is one of the region's
    have all : ∀ (r : List AOper) {tab : List (Nat × Msk)} {done : List AOper} {last : Option Nat}, (∀ i l, (i, l) ∈ tab → ∀ k ∈ l, Anc ops k i) → ckD L P nt ops tab done last r = true → ∀ x ∈ r, x.ix < ops.size := by
      intro r
      induction r with
      | nil => intro _ _ _ _ _ x hx; cases hx
      | cons z r ih =>
        intro tab done last ht hk x hx
        obtain ⟨o, c⟩ := ckD_step ht hk
        rcases List.mem_cons.1 hx with rfl | hx
        · exact (Array.getElem?_eq_some_iff.1 c.at_).1
        · exact ih c.tab_ c.rest x hx
    exact all xs (fun i l hil => by cases hil) hck y hy
  · rw [getD_replicate] at hl; cases hl
  · exact getD_replicate _ _

end
end Go.Ab
