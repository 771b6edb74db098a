/- Regions in the order of the text, calls among them: what the abstract machine says of them holds of the model's. Conditions: none. -/
import Derived.Test.YtdkgdneiilnppaaAi
import Derived.Tactics
import Derived.Defers
set_option linter.all false
namespace Go.Ab
variable {L : Lk} {ι : Im} {H : Heap} {w : World} {P : Program} {fr : Fr} {a : Act}

/-- What holds behind a call. -/
def CP (L : Lk) (ι : Im) (H : Heap) (w : World) (Q : Out → Heap → Prop) : Ending → World → Prop := fun e w' =>
  ∃ ι' H', Sim L ι' H' w' ∧ Ext ι H w ι' H' w' ∧ match e with
    | .returned v' => ∃ v, Rel L ι' v v' ∧ Q (.ret v) H'
    | .panicked chain => ∃ v v', chain = [{ v := v', recovered := false }] ∧ Rel L ι' v v' ∧ Q (.pan v) H'
    | .outgrown => False

/-- What is shown of a call. -/
def SC (L : Lk) (P : Program) (nd : Nat → Bool) : CallT := fun g l H Q =>
  L.dom g = true → ∀ (ι : Im) (w : World) (args : Array Value), Sim L ι H w → RelL L ι l args.toList →
    Calls P (L.φ g) args w (CP L ι H w Q) ∧ (nd g = true → ∀ u, CallsD P (L.φ g) args u w fun e u' w' => u' = u ∧ CP L ι H w Q e w')

/-- The deferred calls. -/
def DsRel (L : Lk) (ι : Im) : List (Nat × List V) → List Deferred → Prop
  | [], ds => ds = []
  | (g, l) :: r, ds => ∃ caps args s, ds = { target := .fn (.func (L.φ g)) caps, args := args } :: s ∧ L.dom g = true ∧ RelL L ι l (args ++ caps).toList ∧ DsRel L ι r s

theorem DsRel.mono {ι' : Im} (h : ILe ι ι') : ∀ {l : List (Nat × List V)} {ds : List Deferred}, DsRel L ι l ds → DsRel L ι' l ds
  | [], _, r => r
  | (_, _) :: _, _, ⟨caps, args, s, e, d, r, t⟩ => ⟨caps, args, s, e, d, RelL.mono h _ _ r, t.mono h⟩

/-- A frame: the temporaries, the deferred calls. -/
structure FrOk (L : Lk) (nt : Nat) (ι : Im) (fr : Fr) (a : Act) : Prop where
  size : a.tmps.size = nt
  tm : FrRel L ι fr a.tmps
  ds : DsRel L ι fr.ds a.defers

theorem FrOk.mono {nt : Nat} {ι' : Im} (h : ILe ι ι') (r : FrOk L nt ι fr a) : FrOk L nt ι' fr a := ⟨r.size, r.tm.mono h, r.ds.mono h⟩

theorem FrOk.put {nt : Nat} (r : FrOk L nt ι fr a) {d : Option Nat} {v : V} {x : Value} (hd : ∀ t, d = some t → t < nt) (hv : Rel L ι v x) : FrOk L nt ι (fr.put d v) (a.put d x) := by
  cases d with
  | none => exact r
  | some t => exact ⟨by simp [Act.put, r.size], r.tm.put (by rw [r.size]; exact hd t rfl) hv, r.ds⟩

theorem FrOk.keep {nt : Nat} (r : FrOk L nt ι fr a) (l : List Nat) : FrOk L nt ι (fr.keep l) a := ⟨r.size, r.tm.keep l, r.ds⟩

/-- What holds behind code. -/
def LQ (L : Lk) (nt : Nat) (ι0 : Im) (H0 : Heap) (w0 : World) (Q : Post) : Exit → Act → World → Prop := fun e a w =>
  ∃ ι fr H, Sim L ι H w ∧ Ext ι0 H0 w0 ι H w ∧ FrOk L nt ι fr a ∧ match e with
    | .normal => Q .normal fr H
    | .exit id => Q (.exit id) fr H
    | .ret => Q .ret fr H
    | .panic chain => ∃ v v', chain = [{ v := v', recovered := false }] ∧ Rel L ι v v' ∧ Q (.pan v) fr H
    | .goto _ => False
    | .outgrown => False

/-- Calls, deferred calls, panics: which of the model's they are. -/
def ckCall (L : Lk) (f : Opd) (args : List Opd) (c : Go.Call) : Bool :=
  match c.callee with
  | .value f' => ckOpd L f f' && ckOpds L args c.args.toList
  | _ => false

def ckOp (L : Lk) (P : Program) (p : AOp) (o : Op) : Bool :=
  match p with
  | .call f args => (match o with | .call c => ckCall L f args c | _ => false)
  | .dfr f args => (match o with | .defer c => ckCall L f args c | _ => false)
  | .pan x => (match o with | .panic y => ckOpd L x y | _ => false)
  | p => ckS L P p o

def ckGuard (ops : Array Oper) : Option (Nat × Bool) → Option (Nat × Bool) → Bool
  | none, none => true
  | some (t, b), some (j, c) => b == c && (ops[j]?).bind (·.dst) == some t
  | _, _ => false

def ckOper (L : Lk) (P : Program) (nt : Nat) (ops : Array Oper) (x : AOper) (o : Oper) : Bool :=
  (match x.dst, o.dst with
    | none, none => true
    | some d, some e => d == e && decide (d < nt)
    | _, _ => false) && ckGuard ops x.g o.guard && ckOp L P x.op o.op

theorem ckOper_spec {nt : Nat} {ops : Array Oper} {x : AOper} {o : Oper} (h : ckOper L P nt ops x o = true) :
    x.dst = o.dst ∧ (∀ t, x.dst = some t → t < nt) ∧ ckGuard ops x.g o.guard = true ∧ ckOp L P x.op o.op = true := by
  simp only [ckOper, Bool.and_eq_true] at h
  obtain ⟨⟨h1, h2⟩, h3⟩ := h
  refine ⟨?_, ?_, h2, h3⟩
  · revert h1; cases x.dst <;> cases o.dst <;> simp
    intro h _; exact h
  · revert h1; cases x.dst <;> cases o.dst <;> simp

/-- Each function of the domain: its text, checked; it is none that the model answers by itself. -/
structure Linked0 (L : Lk) (P : Program) : Prop where
  enter : ∀ g, L.dom g = true → ∃ fn c, P.funcs[L.φ g]? = some fn ∧ (fn.name == "runtime.NumGoroutine") = false ∧ fn.body = some c

theorem run_callFunc (k : Linked0 L P) {g : Nat} (hg : L.dom g = true) (args : Array Value) : (callFunc (L.φ g) args).run P w = .ok (.enter (L.φ g) args) w := by
  obtain ⟨fn, c, h1, h2, h3⟩ := k.enter g hg
  simp only [callFunc, Sem.run_bind, run_program, Result.andThen_ok, h1, h2, Bool.false_eq_true, if_false, h3, Option.isNone_some, Sem.run_pure]

theorem callee_sound (hf : FrRel L ι fr a.tmps) {f : Opd} {args : List Opd} {c : Go.Call} {ty g : Nat} {l : List V} (hc : ckCall L f args c = true) (h : callee fr f args = some (g, l)) :
    ∃ caps as, (resolve a.eval c ty).run P w = .ok { target := .fn (.func (L.φ g)) caps, args := as } w ∧ L.dom g = true ∧ RelL L ι l (as ++ caps).toList := by
  obtain ⟨cal, cargs, cty⟩ := c
  unfold ckCall at hc
  dsimp only at hc
  split at hc
  · rename_i f'
    obtain ⟨h1, h2⟩ := and2 hc
    unfold callee at h
    split at h
    · rename_i g0 first caps l0 e1 e2
      cases h
      obtain ⟨fs, cs, r1, r2, r3, r4⟩ := opd_rel hf h1 e1
      have r5 := opds_rel hf h2 e2
      refine ⟨cs, fs ++ cargs.map a.eval, ?_, r2, ?_⟩
      · simp only [resolve, r1, Deferred.ofValue]; rfl
      · simp only [Array.toList_append, Array.toList_map]
        exact (r3.append r5).append r4
    · cases h
  · cases hc

/-- An operation of a region. -/
theorem evOp_sound {nt : Nat} {nd : Nat → Bool} {ops : Array Oper} {x : AOper} {o : Oper} (k : Linked0 L P) (hc : ckOper L P nt ops x o = true) (s : Sim L ι H w) (hf : FrOk L nt ι fr a)
    {K : Fr → Heap → Prop} {X : V → Heap → Prop} {K' : Act → World → Prop} {Q' : Exit → Act → World → Prop}
    (hK : ∀ ι' fr' H' a' w', Sim L ι' H' w' → Ext ι H w ι' H' w' → FrOk L nt ι' fr' a' → K fr' H' → K' a' w')
    (hX : ∀ ι' H' w' v v', Sim L ι' H' w' → Ext ι H w ι' H' w' → Rel L ι' v v' → X v H' → Q' (.panic [{ v := v', recovered := false }]) a w')
    (h : evOp (SC L P nd) fr H x K X) : o.wp P a w K' Q' := by
  obtain ⟨hd, hlt, hg, hop⟩ := ckOper_spec hc
  obtain ⟨xd, xo, xg, xi, xr⟩ := x
  obtain ⟨od, oo, ty, pos, af, og⟩ := o
  simp only at hd hop
  subst hd
  have gen : ∀ v H', ckS L P xo oo = true → step fr H xo = some (v, H') → K (fr.put xd v) H' → Oper.wp P ⟨xd, oo, ty, pos, af, og⟩ a w K' Q' := by
    intro v H' hck hst hk
    obtain ⟨v', w', ι', h1, h2, h3, h4⟩ := step_sound (o := ⟨xd, oo, ty, pos, af, og⟩) hf.tm s hck hst
    have hfin := hK ι' _ H' (a.put xd v') w' h2 h3 ((hf.mono h3.le).put hlt h4) hk
    unfold Oper.wp
    rcases h1 with h1 | ⟨h1, rfl⟩
    · rw [h1]; exact hfin
    · rw [h1]; exact hfin
  cases xo
  case call f args =>
    cases oo <;> simp only [ckOp] at hop <;> try (cases hop; done)
    rename_i c
    simp only [evOp] at h
    split at h
    · rename_i g l hcal
      obtain ⟨caps, as, r1, r2, r3⟩ := callee_sound (P := P) (w := w) (ty := ty) hf.tm hop hcal
      have hcalls := (h r2 ι w (as ++ caps) s r3).1
      unfold Oper.wp
      have hrun : (execOp a.eval ⟨xd, .call c, ty, pos, af, og⟩).run P w = .ok (.enter (L.φ g) (as ++ caps)) w := by
        simp only [execOp, Sem.run_bind, r1, Result.andThen_ok, invoke]
        exact run_callFunc k r2 _
      rw [hrun]
      refine hcalls.mono fun e w' he => ?_
      obtain ⟨ι', H', s', x', hm⟩ := he
      cases e with
      | returned v' =>
        obtain ⟨v, hv, hq⟩ := hm
        exact hK ι' _ H' (a.put xd v') w' s' x' ((hf.mono x'.le).put hlt hv) hq
      | panicked chain =>
        obtain ⟨v, v', rfl, hv, hq⟩ := hm
        exact hX ι' H' w' v v' s' x' hv hq
      | outgrown => exact hm.elim
    · exact h.elim
  case dfr f args =>
    cases oo <;> simp only [ckOp] at hop <;> try (cases hop; done)
    rename_i c
    simp only [evOp] at h
    split at h
    · rename_i g l hcal
      obtain ⟨caps, as, r1, r2, r3⟩ := callee_sound (P := P) (w := w) (ty := ty) hf.tm hop hcal
      unfold Oper.wp
      have hrun : (execOp a.eval ⟨xd, .defer c, ty, pos, af, og⟩).run P w = .ok (.defer { target := .fn (.func (L.φ g)) caps, args := as }) w := by
        simp only [execOp, Sem.run_bind, r1, Result.andThen_ok, Sem.run_pure]
      rw [hrun]
      have hput := hf.put (v := .un) (x := undef) hlt trivial
      refine hK ι ⟨(fr.put xd .un).tm, (g, l) :: fr.ds⟩ H _ w s (Ext.refl _ _ _) ?_ h
      have hds : (fr.put xd .un).ds = fr.ds := by cases xd <;> rfl
      refine ⟨?_, ?_, ?_⟩
      · cases xd <;> simp [Act.put, hf.size]
      · have := hput.tm
        cases xd <;> exact this
      · have : DsRel L ι ((g, l) :: fr.ds) ({ target := .fn (.func (L.φ g)) caps, args := as } :: a.defers) := ⟨caps, as, _, rfl, r2, r3, hf.ds⟩
        cases xd <;> exact this
    · exact h.elim
  case pan y =>
    cases oo <;> simp only [ckOp] at hop <;> try (cases hop; done)
    rename_i y'
    simp only [evOp] at h
    split at h
    · rename_i t v hv
      obtain ⟨u, e, r⟩ := opd_rel hf.tm hop hv
      unfold Oper.wp
      have hrun : (execOp a.eval ⟨xd, .panic y', ty, pos, af, og⟩).run P w = .halt (.panic (.iface (L.τ t) u)) w := by
        simp only [execOp, e, Instr.panic, Sem.run_bind, run_goPanic, Result.andThen_halt]
      rw [hrun]
      exact hX ι H w (.ifc t v) (.iface (L.τ t) u) s (Ext.refl _ _ _) ⟨u, rfl, r⟩ h
    · exact h.elim
  all_goals
    simp only [evOp] at h
    split at h
    · rename_i v H' hst
      exact gen v H' hop hst h
    · exact h.elim

theorem wanted_none {ops : Array Oper} {o : Oper} (h : o.guard = none) (tmps : Array Value) : Region.wanted o (yielded ops tmps) = true := by simp [Region.wanted, h]

theorem wanted_off {ops : Array Oper} {o : Oper} {j t : Nat} {want : Bool} {v : Value} {tmps : Array Value} (h : o.guard = some (j, want)) (hj : (ops[j]?).bind (·.dst) = some t) (ht : tmps[t]? = some v) (hv : ∀ b, v ≠ .bool b) :
    Region.wanted o (yielded ops tmps) = false := by
  have : yielded ops tmps j = none := by
    unfold yielded; rw [hj]; simp only [Option.bind_some, ht]; cases v <;> first | rfl | exact absurd rfl (hv _)
  simp [Region.wanted, h, this]
theorem wanted_some {ops : Array Oper} {o : Oper} {j t : Nat} {want b : Bool} {tmps : Array Value} (h : o.guard = some (j, want)) (hj : (ops[j]?).bind (·.dst) = some t) (ht : tmps[t]? = some (.bool b)) :
    Region.wanted o (yielded ops tmps) = (b == want) := by
  simp [Region.wanted, h, yielded, hj, ht]

/-- A list of operations, one by one. -/
def ckSeq (L : Lk) (P : Program) (nt : Nat) (ops : Array Oper) : List AOper → List Oper → Bool
  | [], [] => true
  | x :: r, o :: s => ckOper L P nt ops x o && ckSeq L P nt ops r s
  | _, _ => false

theorem evOps_sound {nt : Nat} {nd : Nat → Bool} {ops : Array Oper} (k : Linked0 L P) {ι0 : Im} {H0 : Heap} {w0 : World} (s0 : Sim L ι0 H0 w0) {K : Fr → Heap → Prop} {X : Fr → V → Heap → Prop} {Q : Post}
    (hK : ∀ fr H, K fr H → ∃ l, Q .normal (fr.keep l) H) (hX : ∀ fr v H, X fr v H → Q (.pan v) ⟨[], fr.ds⟩ H) :
    ∀ (xs : List AOper) (os : List Oper) (fr : Fr) (H : Heap) (ι : Im) (a : Act) (w : World), ckSeq L P nt ops xs os = true → Sim L ι H w → Ext ι0 H0 w0 ι H w → FrOk L nt ι fr a →
      evOps (SC L P nd) X K xs fr H → wpList P ops (LQ L nt ι0 H0 w0 Q) os a w
  | [], [], fr, H, ι, a, w, _, s, x, hf, h => by
    obtain ⟨l, hl⟩ := hK _ _ h
    exact ⟨ι, fr.keep l, H, s, x, hf.keep l, hl⟩
  | [], _ :: _, _, _, _, _, _, hc, _, _, _, _ => by simp [ckSeq] at hc
  | _ :: _, [], _, _, _, _, _, hc, _, _, _, _ => by simp [ckSeq] at hc
  | y :: r, o :: os, fr, H, ι, a, w, hc, s, x, hf, h => by
    simp only [ckSeq, Bool.and_eq_true] at hc
    obtain ⟨hc1, hc2⟩ := hc
    have one : evOp (SC L P nd) fr H y (evOps (SC L P nd) X K r) (X fr) → o.wp P a w (wpList P ops (LQ L nt ι0 H0 w0 Q) os) (LQ L nt ι0 H0 w0 Q) := fun h =>
      evOp_sound k hc1 s hf (fun ι' fr' H' a' w' s' x' hf' hk => evOps_sound k s0 hK hX r os fr' H' ι' a' w' hc2 s' (x.trans s0 s x') hf' hk)
        (fun ι' H' w' v v' s' x' hv hx => ⟨ι', ⟨[], fr.ds⟩, H', s', x.trans s0 s x', ⟨hf.size, (fun t v h => by cases h), hf.ds.mono x'.le⟩, v, v', rfl, hv, hX _ _ _ hx⟩) h
    obtain ⟨hd, hlt, hg, hop⟩ := ckOper_spec hc1
    have skip : evOps (SC L P nd) X K r (fr.put y.dst (.tup [])) H → wpList P ops (LQ L nt ι0 H0 w0 Q) os (a.put o.dst undef) w := fun h =>
      evOps_sound k s0 hK hX r os _ H ι _ w hc2 s x (by rw [← hd]; exact hf.put hlt ⟨#[], rfl, rfl⟩) h
    unfold evOps at h
    unfold wpList
    cases hyg : y.g with
    | none =>
      rw [hyg] at h hg
      cases hog : o.guard with
      | some g => rw [hog] at hg; simp [ckGuard] at hg
      | none => rw [wanted_none hog, if_pos rfl]; exact .inl (one h)
    | some g =>
      obtain ⟨t, want⟩ := g
      rw [hyg] at h hg
      cases hog : o.guard with
      | none => rw [hog] at hg; simp [ckGuard] at hg
      | some g' =>
        obtain ⟨j, want'⟩ := g'
        rw [hog] at hg
        simp only [ckGuard, Bool.and_eq_true, beq_iff_eq] at hg
        obtain ⟨rfl, hj⟩ := hg
        dsimp only at h
        split at h
        · rename_i b hb
          obtain ⟨v', e1, e2⟩ := hf.tm t _ hb
          cases e2
          rw [wanted_some hog hj e1]
          unfold gif at h
          by_cases hw : (b == want) = true
          · rw [if_pos hw] at h; rw [if_pos hw]; exact .inl (one h)
          · rw [if_neg hw] at h; rw [if_neg hw]; exact skip h
        · rename_i hb
          obtain ⟨v', e1, vs, e2, e3⟩ := hf.tm t _ hb
          rw [wanted_off hog hj (by rw [e1, e2]) (fun b e => by cases e), if_neg (by decide)]; exact skip h
        · exact h.elim

end Go.Ab
