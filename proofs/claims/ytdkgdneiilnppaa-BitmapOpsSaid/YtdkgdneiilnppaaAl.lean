/- A region that draws its order: whatever order comes, it ends as the canonical one does. Conditions: a check by program of the order's edges. -/
import Derived.Test.YtdkgdneiilnppaaAk
set_option linter.all false
namespace Go.Ab
variable {L : Lk} {P : Program}

theorem Anc.trans {ops : Array Oper} {i j k : Nat} (h : Anc ops i j) (h' : Anc ops j k) : Anc ops i k := by
  induction h' with
  | edge h1 he hb hi => subst hi; exact .step h1 he hb h
  | step h1 he hb _ ih => exact .step h1 he hb ih

def isLoad : AOp → Bool
  | .load _ _ => true
  | _ => false
def isFresh : AOp → Bool
  | .alloc _ => true
  | .box _ _ => true
  | .bslice _ _ _ _ => true
  | .mkslice _ _ _ _ _ => true
  | _ => false
/-- What another order may carry out later. -/
def late (p : AOp) : Bool := pureOp p || isLoad p || isFresh p

def AOper.names (x : AOper) : List Nat := x.op.reads ++ (match x.g with | some (t, _) => [t] | none => [])

def dstIn (x : AOper) (l : List Nat) : Bool := match x.dst with
  | some t => l.contains t
  | none => false
def sameDst (x y : AOper) : Bool := match x.dst, y.dst with
  | some t, some u => t == u
  | _, _ => false

/-- The check, along the canonical order. -/
def ckD (L : Lk) (P : Program) (nt : Nat) (ops : Array Oper) : List (Nat × Msk) → List AOper → Option Nat → List AOper → Bool
  | _, _, _, [] => true
  | tab, done, last, x :: r => match ops[x.ix]? with
    | none => false
    | some o =>
      ckOper L P nt ops x o && !dstIn x x.names && o.after.toList.all (fun e => !Region.binds .any e || done.any fun y => y.ix == e.on) &&
      done.all (fun y => y.ix != x.ix && !sameDst x y && (!(dstIn x y.names || dstIn y x.names) || (ancOf tab o).contains y.ix)) &&
      (match last with | none => true | some k => (ancOf tab o).contains k) &&
      (late x.op || done.all fun y => !(isLoad y.op || isFresh y.op) || (ancOf tab o).contains y.ix || (x.re.contains y.ix && !dstIn x y.names && (done.takeWhile (fun z => z.ix != y.ix)).all fun z => !dstIn z y.names)) &&
      ckD L P nt ops ((x.ix, ancOf tab o) :: tab) (x :: done) (if late x.op then last else some x.ix) r

def ckDraw (L : Lk) (P : Program) (nt : Nat) (ops : Array Oper) (xs : List AOper) : Bool :=
  xs.length == ops.size && (List.range ops.size).all (fun i => xs.any fun x => x.ix == i) && ckD L P nt ops [] [] none xs

/-- What one step of the check says. -/
structure CkStep (L : Lk) (P : Program) (nt : Nat) (ops : Array Oper) (tab : List (Nat × Msk)) (done : List AOper) (last : Option Nat) (x : AOper) (r : List AOper) (o : Oper) : Prop where
  at_ : ops[x.ix]? = some o
  oper : ckOper L P nt ops x o = true
  self : dstIn x x.names = false
  edges : ∀ e ∈ o.after, Region.binds .any e = true → ∃ y ∈ done, y.ix = e.on
  fresh : ∀ y ∈ done, y.ix ≠ x.ix
  dsts : ∀ y ∈ done, sameDst x y = false
  conf : ∀ y ∈ done, (dstIn x y.names = true ∨ dstIn y x.names = true) → Anc ops y.ix x.ix
  last_ : ∀ k, last = some k → Anc ops k x.ix
  re : late x.op = false → ∀ y ∈ done, (isLoad y.op = true ∨ isFresh y.op = true) → ¬ Anc ops y.ix x.ix → x.re.contains y.ix = true ∧ dstIn x y.names = false ∧ ∀ z ∈ done.takeWhile (fun z => z.ix != y.ix), dstIn z y.names = false
  rest : ckD L P nt ops ((x.ix, ancOf tab o) :: tab) (x :: done) (if late x.op then last else some x.ix) r = true
  tab_ : ∀ i l, (i, l) ∈ (x.ix, ancOf tab o) :: tab → ∀ k ∈ l, Anc ops k i

theorem ckD_step {nt : Nat} {ops : Array Oper} {tab : List (Nat × Msk)} {done : List AOper} {last : Option Nat} {x : AOper} {r : List AOper} (ht : ∀ i l, (i, l) ∈ tab → ∀ k ∈ l, Anc ops k i)
    (h : ckD L P nt ops tab done last (x :: r) = true) : ∃ o, CkStep L P nt ops tab done last x r o := by
  unfold ckD at h
  split at h
  · cases h
  · rename_i o ho
    simp only [Bool.and_eq_true] at h
    obtain ⟨⟨⟨⟨⟨⟨h1, h0⟩, h2⟩, h3⟩, h4⟩, h5⟩, h6⟩ := h
    have hanc := ancOf_spec ht ho
    rw [List.all_eq_true] at h2 h3
    refine ⟨o, ho, h1, by simpa using h0, fun e he hb => ?_, fun y hy => ?_, fun y hy => ?_, fun y hy hc => ?_, fun k hk => ?_, fun hl y hy hc hna => ?_, h6, fun i l hil k hk => ?_⟩
    · have := h2 e (by simpa using he)
      simp only [hb, Bool.not_true, Bool.false_or, List.any_eq_true, beq_iff_eq] at this
      exact this
    · have := h3 y hy; simp only [Bool.and_eq_true, bne_iff_ne] at this; exact this.1.1
    · have := h3 y hy; simp only [Bool.and_eq_true, Bool.not_eq_true'] at this; exact this.1.2
    · have := (and2 (h3 y hy)).2
      have hcc : (dstIn x y.names || dstIn y x.names) = true := by simpa using hc
      rw [hcc] at this
      simp only [Bool.not_true, Bool.false_or] at this
      exact hanc _ (Msk.contains_iff.1 this)
    · subst hk
      exact hanc _ (Msk.contains_iff.1 h4)
    · rw [hl] at h5
      simp only [Bool.false_or, List.all_eq_true] at h5
      have h5 := h5 y hy
      have hcc : (isLoad y.op || isFresh y.op) = true := by simpa using hc
      have hnc : (ancOf tab o).contains y.ix = false := by
        cases hx : (ancOf tab o).contains y.ix with
        | false => rfl
        | true => exact absurd (hanc _ (Msk.contains_iff.1 hx)) hna
      rw [hcc, hnc] at h5
      simp only [Bool.not_true, Bool.false_or, Bool.and_eq_true, Bool.not_eq_true', List.all_eq_true] at h5
      exact ⟨h5.1.1, h5.1.2, h5.2⟩
    · rcases List.mem_cons.1 hil with he | he
      · cases he; exact hanc k hk
      · exact ht i l he k hk

/-- All that stands behind a writing operation waits for it. -/
theorem ckD_last {nt : Nat} {ops : Array Oper} {k : Nat} : ∀ (r : List AOper) {tab : List (Nat × Msk)} {done : List AOper} {m : Nat}, (∀ i l, (i, l) ∈ tab → ∀ k ∈ l, Anc ops k i) →
    (m = k ∨ Anc ops k m) → ckD L P nt ops tab done (some m) r = true → ∀ x ∈ r, Anc ops k x.ix
  | [], _, _, _, _, _, _, x, hx => by simp at hx
  | y :: r, tab, done, m, ht, hm, h, x, hx => by
    obtain ⟨o, c⟩ := ckD_step ht h
    have hy : Anc ops k y.ix := by
      rcases hm with rfl | hm
      · exact c.last_ _ rfl
      · exact hm.trans (c.last_ _ rfl)
    rcases List.mem_cons.1 hx with rfl | hx
    · exact hy
    · have hr := c.rest
      by_cases hl : late y.op = true
      · rw [if_pos hl] at hr; exact ckD_last r c.tab_ hm hr x hx
      · rw [if_neg hl] at hr; exact ckD_last r c.tab_ (.inr hy) hr x hx

theorem ckD_fresh {nt : Nat} {ops : Array Oper} : ∀ (r : List AOper) {tab : List (Nat × Msk)} {done : List AOper} {last : Option Nat}, (∀ i l, (i, l) ∈ tab → ∀ k ∈ l, Anc ops k i) →
    ckD L P nt ops tab done last r = true → ∀ x ∈ r, ∀ y ∈ done, y.ix ≠ x.ix
  | [], _, _, _, _, _, x, hx, _, _ => by simp at hx
  | z :: r, tab, done, last, ht, h, x, hx, y, hy => by
    obtain ⟨o, c⟩ := ckD_step ht h
    rcases List.mem_cons.1 hx with rfl | hx
    · exact c.fresh y hy
    · exact ckD_fresh r c.tab_ c.rest x hx y (List.mem_cons_of_mem _ hy)

/-- Pending: carried out by the abstract machine, not yet by the model's. -/
structure Pe where
  x : AOper
  fi : Fr
  v : V
  b : Option Nat

/-- Is it carried out? -/
def Wants (fi : Fr) (x : AOper) : Prop := x.g = none ∨ ∃ t want, x.g = some (t, want) ∧ fi.get t = some (.bool want)
def Skips (fi : Fr) (x : AOper) : Prop := ∃ t want, x.g = some (t, want) ∧ (fi.get t = some (.bool !want) ∨ fi.get t = some (.tup []))

/-- What is known of it now. -/
def PVal (H0 : Heap) (ι : Im) (H : Heap) (p : Pe) : Prop :=
  (Skips p.fi p.x ∧ p.v = .tup [] ∧ p.b = none) ∨
  (Wants p.fi p.x ∧ ((isFresh p.x.op = false ∧ p.b = none ∧ step p.fi H p.x.op = some (p.v, H)) ∨
    (isFresh p.x.op = true ∧ ∃ cs mk b, p.b = some b ∧ fresh p.fi p.x.op = some (cs, mk) ∧ p.v = mk b ∧ ι b = none ∧ b < H.next ∧ H0.next ≤ b ∧ H.get b = .cells cs true)))

def Topo (ops : Array Oper) : List AOper → Prop
  | [] => True
  | x :: l => (∀ o, ops[x.ix]? = some o → ∀ e ∈ o.after, Region.binds .any e = true → ∃ y ∈ l, y.ix = e.on) ∧ Topo ops l

structure Inv (L : Lk) (P : Program) (nd : Nat → Bool) (nt : Nat) (ops : Array Oper) (ι0 : Im) (H0 : Heap) (w0 : World) (X : Fr → V → Heap → Prop) (K : Fr → Heap → Prop)
    (tab : List (Nat × Msk)) (done : List AOper) (last : Option Nat) (cl : List AOper) (pend : List Pe) (fs fr : Fr) (H : Heap) (ι : Im) (listed : Array Bool) (a : Act) (w : World) : Prop where
  ck : ckD L P nt ops tab done last cl = true
  tab_ : ∀ i l, (i, l) ∈ tab → ∀ k ∈ l, Anc ops k i
  topo : Topo ops done
  opers : ∀ y ∈ done, ∃ o, ops[y.ix]? = some o ∧ ckOper L P nt ops y o = true
  dix : ∀ y ∈ done, ∀ z ∈ done, y.ix = z.ix → y = z
  dsts : ∀ y ∈ done, ∀ z ∈ done, y.ix ≠ z.ix → sameDst y z = false
  conf : ∀ y ∈ done, ∀ z ∈ done, y.ix ≠ z.ix → dstIn y z.names = true → Anc ops y.ix z.ix ∨ Anc ops z.ix y.ix
  cover : ∀ j, j < ops.size → (∃ y ∈ done, y.ix = j) ∨ ∃ x ∈ cl, x.ix = j
  clix : ∀ x ∈ cl, x.ix < ops.size
  lsize : listed.size = ops.size
  closed : Closed ops listed
  ldone : ∀ y ∈ done, listed.getD y.ix false = true ∨ ∃ p ∈ pend, p.x = y
  lpend : ∀ p ∈ pend, listed.getD p.x.ix false = false
  lcl : ∀ x ∈ cl, listed.getD x.ix false = false
  pdone : ∀ p ∈ pend, p.x ∈ done
  plate : ∀ p ∈ pend, late p.x.op = true ∨ Skips p.fi p.x
  pnodup : (pend.map (·.x.ix)).Nodup
  pb : ∀ p ∈ pend, ∀ q ∈ pend, p.x.ix ≠ q.x.ix → ∀ b, p.b = some b → q.b ≠ some b
  pval : ∀ p ∈ pend, PVal H0 ι H p
  noself : ∀ p ∈ pend, ∀ t ∈ p.x.names, p.x.dst ≠ some t
  p6a : ∀ p ∈ pend, ∀ q ∈ pend, Anc ops q.x.ix p.x.ix → ∀ t, q.x.dst = some t → t ∈ p.x.names → p.fi.get t = some q.v
  p6b : ∀ p ∈ pend, ∀ t ∈ p.x.names, (∀ q ∈ pend, Anc ops q.x.ix p.x.ix → q.x.dst ≠ some t) → fs.get t = p.fi.get t
  p9 : ∀ p ∈ pend, ∀ t ∈ p.x.names, (∀ z ∈ done.takeWhile (fun z => z.ix != p.x.ix), z.dst ≠ some t) → p.x.dst ≠ some t → fr.get t = p.fi.get t
  f7a : ∀ t, (∀ p ∈ pend, p.x.dst ≠ some t) → fs.get t = fr.get t
  f7b : ∀ p ∈ pend, ∀ t, p.x.dst = some t → fr.get t = some p.v
  fds : fs.ds = fr.ds
  run : evD (SC L P nd) X K done cl fr H
  sim0 : Sim L ι0 H0 w0
  sim : Sim L ι H w
  ext : Ext ι0 H0 w0 ι H w
  ok : FrOk L nt ι fs a

theorem sameDst_spec {x y : AOper} (h : sameDst x y = false) : ∀ t, x.dst = some t → y.dst ≠ some t := by
  intro t h1 h2; simp [sameDst, h1, h2] at h
theorem dstIn_spec {x : AOper} {l : List Nat} (h : dstIn x l = false) : ∀ t, x.dst = some t → t ∉ l := by
  intro t h1 h2; simp [dstIn, h1] at h; exact h h2
theorem dstIn_of {x : AOper} {l : List Nat} {t : Nat} (h : x.dst = some t) (ht : t ∈ l) : dstIn x l = true := by simp [dstIn, h, ht]

theorem frput_get {fr : Fr} {d : Option Nat} {v : V} (t : Nat) : (fr.put d v).get t = if d = some t then some v else fr.get t := by
  cases d with
  | none => simp [Fr.put]
  | some u => simp only [Fr.put, Fr.get, look, Option.some.injEq]


theorem Inv.ne_self {x : AOper} (h : dstIn x x.names = false) {t : Nat} (ht : t ∈ x.names) : x.dst ≠ some t := fun e => dstIn_spec h t e ht

/-- What stands ahead of a done one is done. -/
theorem Topo.anc {ops : Array Oper} : ∀ {done : List AOper}, Topo ops done → ∀ {i j : Nat}, Anc ops i j → (∃ y ∈ done, y.ix = j) → ∃ y ∈ done, y.ix = i := by
  intro done ht i j h
  have one : ∀ {done : List AOper}, Topo ops done → ∀ {j : Nat} {o : Oper} {e : Edge}, ops[j]? = some o → e ∈ o.after → Region.binds .any e = true → (∃ y ∈ done, y.ix = j) → ∃ y ∈ done, y.ix = e.on := by
    intro done ht j o e hj he hb hy
    induction done with
    | nil => obtain ⟨y, hy, _⟩ := hy; simp at hy
    | cons x l ih =>
      obtain ⟨y, hy, hyj⟩ := hy
      rcases List.mem_cons.1 hy with rfl | hy
      · obtain ⟨z, hz, hze⟩ := ht.1 o (by rw [hyj]; exact hj) e he hb
        exact ⟨z, List.mem_cons_of_mem _ hz, hze⟩
      · obtain ⟨z, hz, hze⟩ := ih ht.2 ⟨y, hy, hyj⟩
        exact ⟨z, List.mem_cons_of_mem _ hz, hze⟩
  induction h with
  | edge h1 he hb hi => intro hd; rw [← hi]; exact one ht h1 he hb hd
  | step h1 he hb _ ih => intro hd; exact ih (one ht h1 he hb hd)

theorem load_step {fi : Fr} {H H1 : Heap} {n : Option Nat} {x : Opd} {v : V} : step fi H (.load n x) = some (v, H1) ↔ ∃ b o, opd fi x = some (.ptr (some (b, o))) ∧ rd H n b o = some v ∧ H1 = H := by
  simp only [step]
  constructor
  · intro h
    split at h
    · rename_i b o e
      simp only [Option.map_eq_some_iff] at h
      obtain ⟨u, h1, h2⟩ := h; cases h2
      exact ⟨b, o, e, h1, rfl⟩
    · cases h
  · rintro ⟨b, o, e, h1, rfl⟩
    rw [e]; simp [h1]

theorem fresh_inj {fr : Fr} {p : AOp} {cs : List V} {mk : Nat → V} {b b' : Nat} (h : fresh fr p = some (cs, mk)) (he : mk b = mk b') : b = b' := by
  cases p <;> simp only [fresh] at h <;> (try cases h)
  · simpa using he
  all_goals
    repeat' split at h
    all_goals first
      | (cases h; done)
      | (cases h; simpa using he)

/-- The heap has grown by a block: what was known is known. -/
theorem PVal.new {L : Lk} {H0 H : Heap} {ι : Im} {w : World} {p : Pe} (s : Sim L ι H w) (o : Obj) (hl : late p.x.op = true ∨ Skips p.fi p.x) (h : PVal H0 ι H p) : PVal H0 ι (H.new o) p := by
  have hget : ∀ x, x ≠ H.next → (H.new o).get x = H.get x := fun x hx => by
    show (if x = H.next then o else H.get x) = _; rw [if_neg hx]
  rcases h with h | ⟨hw, h⟩
  · exact .inl h
  · rcases h with ⟨h1, h2, h3⟩ | ⟨h1, cs, mk, b, h2, h3, h4, h5, h6, h7, h8⟩
    · refine .inr ⟨hw, .inl ⟨h1, h2, ?_⟩⟩
      by_cases hp : pureOp p.x.op = true
      · exact (pure_step hp h3).2
      · have hlt : late p.x.op = true := by
          rcases hl with hl | ⟨t, want, e1, e2⟩
          · exact hl
          · exfalso
            rcases hw with hw | ⟨t', want', e3, e4⟩
            · rw [hw] at e1; cases e1
            · rw [e1] at e3; cases e3; rw [e4] at e2; rcases e2 with e2 | e2 <;> cases want <;> cases e2
        have hld : isLoad p.x.op = true := by
          simp only [late, Bool.or_eq_true, h1, Bool.false_eq_true, or_false] at hlt
          exact hlt.resolve_left hp
        cases hop : p.x.op <;> rw [hop] at hld <;> simp only [isLoad] at hld <;> (try cases hld)
        rw [hop] at h3
        obtain ⟨b, q, e1, e2, _⟩ := load_step.1 h3
        refine load_step.2 ⟨b, q, e1, ?_, rfl⟩
        have hb : b ≠ H.next := fun hb => by
          subst hb; unfold rd at e2; rw [s.dn _ (Nat.le_refl _)] at e2; cases e2
        unfold rd at e2 ⊢
        rw [hget b hb]; exact e2
    · exact .inr ⟨hw, .inr ⟨h1, cs, mk, b, h2, h3, h4, h5, Nat.lt_succ_of_lt h6, h7, by rw [hget b (by omega)]; exact h8⟩⟩


section
variable {nd : Nat → Bool} {nt : Nat} {ops : Array Oper} {ι0 : Im} {H0 : Heap} {w0 : World} {X : Fr → V → Heap → Prop} {K : Fr → Heap → Prop}
variable {tab : List (Nat × Msk)} {done : List AOper} {last : Option Nat} {cl : List AOper} {pend : List Pe} {fs fr : Fr} {H : Heap} {ι : Im} {listed : Array Bool} {a : Act} {w : World}

/-- The canonical order's next operation becomes pending. -/
theorem Inv.push {x : AOper} {r : List AOper} {v : V} {b : Option Nat} {H' : Heap} (h : Inv L P nd nt ops ι0 H0 w0 X K tab done last (x :: r) pend fs fr H ι listed a w)
    (hl : late x.op = true ∨ Skips fr x) (hv : PVal H0 ι H' ⟨x, fr, v, b⟩) (hold : ∀ p ∈ pend, PVal H0 ι H' p) (hb : ∀ p ∈ pend, ∀ c, b = some c → p.b ≠ some c)
    (hs : Sim L ι H' w) (hx : Ext ι0 H0 w0 ι H' w) (hrun : evD (SC L P nd) X K (x :: done) r (fr.put x.dst v) H') :
    ∃ tab' last', Inv L P nd nt ops ι0 H0 w0 X K tab' (x :: done) last' r (⟨x, fr, v, b⟩ :: pend) fs (fr.put x.dst v) H' ι listed a w := by
  obtain ⟨o, c⟩ := ckD_step h.tab_ h.ck
  have hxd : ∀ p ∈ pend, p.x.ix ≠ x.ix := fun p hp => c.fresh _ (h.pdone p hp)
  have hpd : ∀ p ∈ pend, ∀ t, x.dst = some t → p.x.dst ≠ some t := fun p hp t ht => sameDst_spec (c.dsts _ (h.pdone p hp)) t ht
  have hnoanc : ∀ p ∈ pend, ¬ Anc ops x.ix p.x.ix := fun p hp ha => by
    obtain ⟨y, hy, hyx⟩ := h.topo.anc ha ⟨p.x, h.pdone p hp, rfl⟩
    exact c.fresh y hy hyx
  have hlr := c.rest
  refine ⟨_, _, {
    ck := hlr, tab_ := c.tab_, topo := ⟨fun o' ho' e he hb => ?_, h.topo⟩, opers := fun y hy => ?_, dix := fun y hy z hz e => ?_, dsts := fun y hy z hz e => ?_, conf := fun y hy z hz e hc => ?_,
    cover := fun j hj => ?_, clix := fun y hy => h.clix y (List.mem_cons_of_mem _ hy), lsize := h.lsize, closed := h.closed, ldone := fun y hy => ?_, lpend := fun p hp => ?_,
    lcl := fun y hy => h.lcl y (List.mem_cons_of_mem _ hy), pdone := fun p hp => ?_, plate := fun p hp => ?_, pnodup := ?_, pb := fun p hp q hq e c' hc' => ?_, pval := fun p hp => ?_, noself := fun p hp t ht => ?_, p6a := fun p hp q hq ha t ht1 ht2 => ?_, p6b := fun p hp t ht hno => ?_,
    p9 := fun p hp t ht hno hne => ?_, f7a := fun t hno => ?_, f7b := fun p hp t ht => ?_, fds := ?_, run := hrun, sim0 := h.sim0, sim := hs, ext := hx, ok := h.ok }⟩
  · rw [c.at_] at ho'; cases ho'; exact c.edges e he hb
  · rcases List.mem_cons.1 hy with rfl | hy
    · exact ⟨o, c.at_, c.oper⟩
    · exact h.opers y hy
  · rcases List.mem_cons.1 hy with rfl | hy2 <;> rcases List.mem_cons.1 hz with rfl | hz2
    · rfl
    · exact absurd e.symm (c.fresh z hz2)
    · exact absurd e (c.fresh y hy2)
    · exact h.dix y hy2 z hz2 e
  · rcases List.mem_cons.1 hy with rfl | hy2 <;> rcases List.mem_cons.1 hz with rfl | hz2
    · exact absurd rfl e
    · exact c.dsts z hz2
    · have := c.dsts y hy2
      cases hyd : y.dst with
      | none => simp [sameDst, hyd]
      | some t => cases hzd : z.dst with
        | none => simp [sameDst, hyd, hzd]
        | some u => simp only [sameDst, hyd, hzd] at this ⊢; simp at this ⊢; exact fun he => this he.symm
    · exact h.dsts y hy2 z hz2 e
  · rcases List.mem_cons.1 hy with rfl | hy2 <;> rcases List.mem_cons.1 hz with rfl | hz2
    · exact absurd rfl e
    · exact .inr (c.conf z hz2 (.inl hc))
    · exact .inl (c.conf y hy2 (.inr hc))
    · exact h.conf y hy2 z hz2 e hc
  · rcases h.cover j hj with ⟨y, hy, e⟩ | ⟨y, hy, e⟩
    · exact .inl ⟨y, List.mem_cons_of_mem _ hy, e⟩
    · rcases List.mem_cons.1 hy with rfl | hy
      · exact .inl ⟨y, List.mem_cons_self, e⟩
      · exact .inr ⟨y, hy, e⟩
  · rcases List.mem_cons.1 hy with rfl | hy
    · exact .inr ⟨_, List.mem_cons_self, rfl⟩
    · rcases h.ldone y hy with h1 | ⟨p, hp, e⟩
      · exact .inl h1
      · exact .inr ⟨p, List.mem_cons_of_mem _ hp, e⟩
  · rcases List.mem_cons.1 hp with rfl | hp
    · exact h.lcl x List.mem_cons_self
    · exact h.lpend p hp
  · rcases List.mem_cons.1 hp with rfl | hp
    · exact List.mem_cons_self
    · exact List.mem_cons_of_mem _ (h.pdone p hp)
  · rcases List.mem_cons.1 hp with rfl | hp
    · exact hl
    · exact h.plate p hp
  · simp only [List.map_cons, List.nodup_cons]
    refine ⟨fun hm => ?_, h.pnodup⟩
    obtain ⟨p, hp, e⟩ := List.mem_map.1 hm
    exact hxd p hp e
  · rcases List.mem_cons.1 hp with rfl | hp <;> rcases List.mem_cons.1 hq with rfl | hq
    · exact absurd rfl e
    · exact hb q hq c' hc'
    · intro hbq; exact hb p hp c' hbq hc'
    · exact h.pb p hp q hq e c' hc'
  · rcases List.mem_cons.1 hp with rfl | hp
    · exact hv
    · exact hold p hp
  · rcases List.mem_cons.1 hp with rfl | hp
    · exact Inv.ne_self c.self ht
    · exact h.noself p hp t ht
  · rcases List.mem_cons.1 hp with rfl | hp <;> rcases List.mem_cons.1 hq with rfl | hq
    · exact absurd ht1 (Inv.ne_self c.self ht2)
    · exact h.f7b q hq t ht1
    · exact absurd ha (hnoanc p hp)
    · exact h.p6a p hp q hq ha t ht1 ht2
  · rcases List.mem_cons.1 hp with rfl | hp
    · refine h.f7a t (fun q hq hqt => ?_)
      have hanc := c.conf q.x (h.pdone q hq) (.inr (dstIn_of hqt ht))
      exact hno q (List.mem_cons_of_mem _ hq) hanc hqt
    · exact h.p6b p hp t ht (fun q hq => hno q (List.mem_cons_of_mem _ hq))
  · rw [frput_get]
    rcases List.mem_cons.1 hp with rfl | hp
    · rw [if_neg hne]
    · have e : (x :: done).takeWhile (fun z => z.ix != p.x.ix) = x :: done.takeWhile (fun z => z.ix != p.x.ix) := by
        rw [List.takeWhile_cons, if_pos (by simp; exact fun e => hxd p hp e.symm)]
      rw [e] at hno
      rw [if_neg (hno x List.mem_cons_self)]
      exact h.p9 p hp t ht (fun z hz => hno z (List.mem_cons_of_mem _ hz)) hne
  · rw [frput_get, if_neg (hno _ List.mem_cons_self)]
    exact h.f7a t (fun p hp => hno p (List.mem_cons_of_mem _ hp))
  · rw [frput_get]
    rcases List.mem_cons.1 hp with rfl | hp
    · rw [if_pos ht]
    · rw [if_neg (fun e => hpd p hp t e ht)]; exact h.f7b p hp t ht
  · rw [h.fds]; cases x.dst <;> rfl

/-- What the next operation is, where it may be carried out later. -/
theorem Inv.advance {x : AOper} {r : List AOper} (h : Inv L P nd nt ops ι0 H0 w0 X K tab done last (x :: r) pend fs fr H ι listed a w) (hl : late x.op = true ∨ Skips fr x) :
    ∃ tab' last' p fr' H', Inv L P nd nt ops ι0 H0 w0 X K tab' (x :: done) last' r (p :: pend) fs fr' H' ι listed a w := by
  have hrun := h.run
  have body : Wants fr x → late x.op = true → evOp (SC L P nd) fr H x (fun fr' H' => (x.re = [] ∨ rechecks fr' H' x.re done) ∧ evD (SC L P nd) X K (x :: done) r fr' H') (X fr) →
      ∃ tab' last' p fr' H', Inv L P nd nt ops ι0 H0 w0 X K tab' (x :: done) last' r (p :: pend) fs fr' H' ι listed a w := by
    intro hw hlt he
    have hst : ∃ v H', step fr H x.op = some (v, H') ∧ evD (SC L P nd) X K (x :: done) r (fr.put x.dst v) H' := by
      unfold evOp at he
      cases hop : x.op <;> rw [hop] at hlt he <;> simp only [late, pureOp, isLoad, isFresh, Bool.or_false, Bool.or_self, Bool.false_eq_true] at hlt <;> simp only at he
      all_goals
        split at he
        · rename_i v H' hs; exact ⟨v, H', hs, he.2⟩
        · exact he.elim
    obtain ⟨v, H', hs, hk⟩ := hst
    by_cases hfr : isFresh x.op = true
    · have hfs : ∃ cs mk, fresh fr x.op = some (cs, mk) ∧ v = mk H.next ∧ H' = H.new (.cells cs true) := by
        cases hop : x.op <;> rw [hop] at hfr hs <;> simp only [isFresh] at hfr <;> (try cases hfr)
        all_goals
          simp only [step] at hs
          split at hs
          · rename_i cs mk hf2; cases hs; exact ⟨cs, mk, hf2, rfl, rfl⟩
          · cases hs
      obtain ⟨cs, mk, e1, rfl, rfl⟩ := hfs
      obtain ⟨s2, x2⟩ := h.sim.ghost (.cells cs true)
      have hbs : ∀ p ∈ pend, ∀ c, p.b = some c → c < H.next := by
        intro p hp c hc
        rcases h.pval p hp with ⟨_, _, h3⟩ | ⟨_, ⟨_, h3, _⟩ | ⟨_, cs', mk', b', h3, _, _, _, h4, _⟩⟩
        · rw [h3] at hc; cases hc
        · rw [h3] at hc; cases hc
        · rw [h3] at hc; cases hc; exact h4
      obtain ⟨t', l', hi⟩ := h.push (v := mk H.next) (b := some H.next) (.inl hlt) (.inr ⟨hw, .inr ⟨hfr, cs, mk, H.next, rfl, e1, rfl, h.sim.nx _ (Nat.le_refl _), Nat.lt_succ_self _, h.ext.hn, new_get _⟩⟩)
        (fun p hp => (h.pval p hp).new h.sim _ (h.plate p hp)) (fun p hp c hc hpc => by cases hc; exact absurd (hbs p hp _ hpc) (Nat.lt_irrefl _)) s2 (h.ext.trans h.sim0 h.sim x2) hk
      exact ⟨t', l', _, _, _, hi⟩
    · have hH : H' = H := by
        by_cases hp : pureOp x.op = true
        · exact (pure_step (H' := H) hp hs).1
        · have hld : isLoad x.op = true := by
            simp only [late, Bool.or_eq_true] at hlt
            rcases hlt with (hlt | hlt) | hlt
            · exact absurd hlt hp
            · exact hlt
            · exact absurd hlt hfr
          cases hop : x.op <;> rw [hop] at hld hs <;> simp only [isLoad] at hld <;> (try cases hld)
          exact (load_step.1 hs).choose_spec.choose_spec.2.2
      subst hH
      obtain ⟨t', l', hi⟩ := h.push (v := v) (b := none) (.inl hlt) (.inr ⟨hw, .inl ⟨by simpa using hfr, rfl, hs⟩⟩) h.pval (fun p hp c hc => by cases hc) h.sim h.ext hk
      exact ⟨t', l', _, _, _, hi⟩
  have skip : Skips fr x → evD (SC L P nd) X K (x :: done) r (fr.put x.dst (.tup [])) H → ∃ tab' last' p fr' H', Inv L P nd nt ops ι0 H0 w0 X K tab' (x :: done) last' r (p :: pend) fs fr' H' ι listed a w := by
    intro hsk hk
    obtain ⟨t', l', hi⟩ := h.push (v := .tup []) (b := none) (.inr hsk) (.inl ⟨hsk, rfl, rfl⟩) h.pval (fun p hp c hc => by cases hc) h.sim h.ext hk
    exact ⟨t', l', _, _, _, hi⟩
  unfold evD at hrun
  cases hg : x.g with
  | none =>
    rw [hg] at hrun
    have hnsk : ¬ Skips fr x := fun ⟨t, want, e, _⟩ => by rw [hg] at e; cases e
    exact body (.inl hg) (hl.resolve_right hnsk) hrun
  | some g =>
    obtain ⟨t, want⟩ := g
    rw [hg] at hrun
    dsimp only at hrun
    split at hrun
    · rename_i b hb
      unfold gif at hrun
      split at hrun
      · rename_i hbw
        have : b = want := by simpa using hbw
        subst this
        have hnsk : ¬ Skips fr x := fun ⟨t', want', e, e2⟩ => by
          rw [hg] at e; cases e; rw [hb] at e2; rcases e2 with e2 | e2 <;> cases b <;> cases e2
        exact body (.inr ⟨t, b, hg, hb⟩) (hl.resolve_right hnsk) hrun
      · rename_i hbw
        have : b = !want := by cases b <;> cases want <;> simp_all
        subst this
        exact skip ⟨t, want, hg, .inl hb⟩ hrun
    · rename_i hb
      exact skip ⟨t, want, hg, .inr hb⟩ hrun
    · exact hrun.elim

end
end Go.Ab
