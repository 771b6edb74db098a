/- Parts of a proof over an abstract machine: Aj, Ak, Al, Am, An, Aq, Ao. Conditions: none. -/
import Derived.RangeFuncIn
import Derived.Tactics
import Derived.Defers
import Derived.Sort.Grow
import Derived.Calls
import Derived.ScopeJumps
import Derived.Recover
import Derived.OrdersIn
import Derived.TacticsIn
import Derived.RangeFuncRecord
import Derived.RangeFuncLeaves
import Derived.Test.YteihedfehcelhaaGreatFf1
import Derived.Test.YteihedfehcelhaaGreatFf2
import Derived.Test.YteihedfehcelhaaGreatFf3
set_option linter.all false
namespace Go.Ab
variable {L : Lk} {ι : Im} {H : Heap} {w : World} {P : Program} {fr : Fr} {a : Act}
/-- What holds behind a call. -/
def CP (L : Lk) (ι : Im) (H : Heap) (w : World) (Q : Out → Heap → Prop) : Ending → World → Prop := fun e w' =>
  ∃ ι' H', Sim L ι' H' w' ∧ Ext ι H w ι' H' w' ∧ match e with
    | .returned v' => ∃ v, Rel L ι' v v' ∧ Q (.ret v) H'
    | .panicked chain => ∃ v v', chain = [{ v := v', recovered := false }] ∧ Rel L ι' v v' ∧ Q (.pan v) H'
    | .outgrown => False

/-- What is shown of a call. -/
def SC (L : Lk) (P : Program) (nd : Nat → Bool) : CallT := fun g l H Q =>
  (L.dom g = true → ∀ (ι : Im) (w : World) (args : Array Value), Sim L ι H w → RelL L ι l args.toList →
    Calls P (L.φ g) args w (CP L ι H w Q) ∧ (nd g = true → ∀ u, CallsD P (L.φ g) args u w fun e u' w' => u' = u ∧ CP L ι H w Q e w')) ∧
  (∀ ps asg bd nt, L.ρ g = some (ps, asg, bd, nt) → ∀ (ι : Im) (w : World) (b c z : Nat) (as : List V) (vals : Array Value), l = .yld g b :: as → Sim L ι H w → ι b = some (c, 0, z) → RelL L ι as vals.toList →
    ∃ f tmps, (Instr.yield c vals).run P w = .ok (.round c f tmps asg bd) w ∧ RoundIn Fence.wide 0 P c f tmps asg bd w (CP L ι H w Q)) ∧
  (L.sh g = true → ∀ (ι : Im) (w : World) (b c z : Nat), l = [.ptr (some (b, 0))] → Sim L ι H w → ι b = some (c, 0, z) → ∃ w', (Instr.takeDeferred c).run P w = .ok [] w' ∧ CP L ι H w Q (.returned (.tuple #[])) w')

/-- The deferred calls. -/
def DsRel (L : Lk) (ι : Im) : List (Nat × List V) → List Deferred → Prop
  | [], ds => ds = []
  | (g, l) :: r, ds => (∃ caps args s, ds = { target := .fn (.func (L.φ g)) caps, args := args } :: s ∧ L.dom g = true ∧ RelL L ι l (args ++ caps).toList ∧ DsRel L ι r s) ∨
    ∃ b c z s, l = [.ptr (some (b, 0))] ∧ ι b = some (c, 0, z) ∧ L.sh g = true ∧ ds = { target := .collected c, args := #[] } :: s ∧ DsRel L ι r s

theorem DsRel.mono {ι' : Im} (h : ILe ι ι') : ∀ {l : List (Nat × List V)} {ds : List Deferred}, DsRel L ι l ds → DsRel L ι' l ds
  | [], _, r => r
  | (_, _) :: _, _, .inl ⟨caps, args, s, e, d, r, t⟩ => .inl ⟨caps, args, s, e, d, RelL.mono h _ _ r, t.mono h⟩
  | (_, _) :: _, _, .inr ⟨b, c, z, s, e1, e2, e3, e4, t⟩ => .inr ⟨b, c, z, s, e1, h _ _ e2, e3, e4, t.mono h⟩

/-- A frame: the temporaries, the deferred calls. -/
structure FrOk (L : Lk) (nt : Nat) (ι : Im) (fr : Fr) (a : Act) : Prop where
  size : a.tmps.size = nt
  tm : FrRel L ι fr a.tmps
  ds : DsRel L ι fr.ds a.defers

theorem FrOk.mono {nt : Nat} {ι' : Im} (h : ILe ι ι') (r : FrOk L nt ι fr a) : FrOk L nt ι' fr a := ⟨r.size, r.tm.mono h, r.ds.mono h⟩

theorem FrOk.put {nt : Nat} (r : FrOk L nt ι fr a) {d : Option Nat} {v : V} {x : Value} (hd : ∀ t, d = some t → t < nt) (hv : Rel L ι v x) : FrOk L nt ι (fr.put d v) (a.put d x) := by
  cases d with
  | none => exact r
  | some t => exact ⟨by simp [Act.put, r.size], r.tm.put (by rw [r.size]; exact hd t rfl) hv, r.ds⟩

theorem FrOk.keep {nt : Nat} (r : FrOk L nt ι fr a) (l : List Nat) : FrOk L nt ι (fr.keep l) a := ⟨r.size, r.tm.keep l, r.ds⟩

/-- What holds behind code. -/
def LQ (L : Lk) (nt : Nat) (ι0 : Im) (H0 : Heap) (w0 : World) (Q : Post) : Exit → Act → World → Prop := fun e a w =>
  ∃ ι fr H, Sim L ι H w ∧ Ext ι0 H0 w0 ι H w ∧ FrOk L nt ι fr a ∧ match e with
    | .normal => Q .normal fr H
    | .exit id => Q (.exit id) fr H
    | .ret => Q .ret fr H
    | .panic chain => ∃ v v', chain = [{ v := v', recovered := false }] ∧ Rel L ι v v' ∧ Q (.pan v) fr H
    | .goto l => Q (.goto l) fr H
    | .outgrown => False

/-- Calls, deferred calls, panics: which of the model's they are. -/
def ckCall (L : Lk) (f : Opd) (args : List Opd) (c : Go.Call) : Bool :=
  match c.callee with
  | .value f' => ckOpd L f f' && ckOpds L args c.args.toList
  | _ => false

def ckOp (L : Lk) (P : Program) (p : AOp) (o : Op) (yy : Bool := false) : Bool :=
  match p with
  | .yc f args => yy && (match o with | .call c => ckCall L f args c | _ => false)
  | .call f args => (match o with | .call c => ckCall L f args c | _ => false)
  | .dfr f args => (match o with | .defer c => ckCall L f args c | _ => false)
  | .pan x => (match o with | .panic y => ckOpd L x y | _ => false)
  | .mp q => ckM L P q o
  | p => ckS L P p o

def ckGuard (ops : Array Oper) : Option (Nat × Bool) → Option (Nat × Bool) → Bool
  | none, none => true
  | some (t, b), some (j, c) => b == c && (ops[j]?).bind (·.dst) == some t
  | _, _ => false

def ckOper (L : Lk) (P : Program) (nt : Nat) (ops : Array Oper) (x : AOper) (o : Oper) (yy : Bool := false) : Bool :=
  (match x.dst, o.dst with
    | none, none => true
    | some d, some e => d == e && decide (d < nt)
    | _, _ => false) && ckGuard ops x.g o.guard && ckOp L P x.op o.op yy

theorem ckOper_spec {nt : Nat} {ops : Array Oper} {x : AOper} {o : Oper} {yy : Bool} (h : ckOper L P nt ops x o yy = true) :
    x.dst = o.dst ∧ (∀ t, x.dst = some t → t < nt) ∧ ckGuard ops x.g o.guard = true ∧ ckOp L P x.op o.op yy = true := by
  simp only [ckOper, Bool.and_eq_true] at h
  obtain ⟨⟨h1, h2⟩, h3⟩ := h
  refine ⟨?_, ?_, h2, h3⟩
  · revert h1; cases x.dst <;> cases o.dst <;> simp
    intro h _; exact h
  · revert h1; cases x.dst <;> cases o.dst <;> simp

/-- Each function of the domain: its text, checked; it is none that the model answers by itself. -/
structure Linked0 (L : Lk) (P : Program) : Prop where
  enter : ∀ g, L.dom g = true → ∃ fn c, P.funcs[L.φ g]? = some fn ∧ (fn.name == "runtime.NumGoroutine") = false ∧ fn.body = some c

theorem run_callFunc (k : Linked0 L P) {g : Nat} (hg : L.dom g = true) (args : Array Value) : (callFunc (L.φ g) args).run P w = .ok (.enter (L.φ g) args) w := by
  obtain ⟨fn, c, h1, h2, h3⟩ := k.enter g hg
  simp only [callFunc, Sem.run_bind, run_program, Result.andThen_ok, h1, h2, Bool.false_eq_true, if_false, h3, Option.isNone_some, Sem.run_pure]

theorem callee_sound (hf : FrRel L ι fr a.tmps) {f : Opd} {args : List Opd} {c : Go.Call} {ty g : Nat} {l : List V} (hc : ckCall L f args c = true) (h : callee fr f args = some (g, l)) :
    ∃ caps as, (resolve a.eval c ty).run P w = .ok { target := .fn (.func (L.φ g)) caps, args := as } w ∧ L.dom g = true ∧ RelL L ι l (as ++ caps).toList := by
  obtain ⟨cal, cargs, cty⟩ := c
  unfold ckCall at hc
  dsimp only at hc
  split at hc
  · rename_i f'
    obtain ⟨h1, h2⟩ := and2 hc
    unfold callee at h
    split at h
    · rename_i g0 first caps l0 e1 e2
      cases h
      obtain ⟨fs, cs, r1, r2, r3, r4⟩ := opd_rel hf h1 e1
      have r5 := opds_rel hf h2 e2
      refine ⟨cs, fs ++ cargs.map a.eval, ?_, r2, ?_⟩
      · simp only [resolve, r1, Deferred.ofValue]; rfl
      · simp only [Array.toList_append, Array.toList_map]
        exact (r3.append r5).append r4
    · cases h
  · cases hc

/-- An operation of a region. -/
theorem evOp_sound {nt : Nat} {nd : Nat → Bool} {ops : Array Oper} {x : AOper} {o : Oper} (k : Linked0 L P) (hc : ckOper L P nt ops x o = true) (s : Sim L ι H w) (hf : FrOk L nt ι fr a)
    {K : Fr → Heap → Prop} {X : V → Heap → Prop} {K' : Act → World → Prop} {Q' : Exit → Act → World → Prop}
    (hK : ∀ ι' fr' H' a' w', Sim L ι' H' w' → Ext ι H w ι' H' w' → FrOk L nt ι' fr' a' → K fr' H' → K' a' w')
    (hX : ∀ ι' H' w' v v', Sim L ι' H' w' → Ext ι H w ι' H' w' → Rel L ι' v v' → X v H' → Q' (.panic [{ v := v', recovered := false }]) a w')
    (h : evOp (SC L P nd) fr H x K X) : o.wp P a w K' Q' := by
  obtain ⟨hd, hlt, hg, hop⟩ := ckOper_spec hc
  obtain ⟨xd, xo, xg, xi, xr⟩ := x
  obtain ⟨od, oo, ty, pos, af, og⟩ := o
  simp only at hd hop
  subst hd
  have gen : ∀ v H', ckS L P xo oo = true → step fr H xo = some (v, H') → K (fr.put xd v) H' → Oper.wp P ⟨xd, oo, ty, pos, af, og⟩ a w K' Q' := by
    intro v H' hck hst hk
    obtain ⟨v', w', ι', h1, h2, h3, h4⟩ := step_sound (o := ⟨xd, oo, ty, pos, af, og⟩) hf.tm s hck hst
    have hfin := hK ι' _ H' (a.put xd v') w' h2 h3 ((hf.mono h3.le).put hlt h4) hk
    unfold Oper.wp
    rcases h1 with h1 | ⟨h1, rfl⟩
    · rw [h1]; exact hfin
    · rw [h1]; exact hfin
  cases xo
  case call f args =>
    cases oo <;> simp only [ckOp] at hop <;> try (cases hop; done)
    rename_i c
    simp only [evOp] at h
    split at h
    · rename_i g l hcal
      obtain ⟨caps, as, r1, r2, r3⟩ := callee_sound (P := P) (w := w) (ty := ty) hf.tm hop hcal
      have hcalls := (h.1 r2 ι w (as ++ caps) s r3).1
      unfold Oper.wp
      have hrun : (execOp a.eval ⟨xd, .call c, ty, pos, af, og⟩).run P w = .ok (.enter (L.φ g) (as ++ caps)) w := by
        simp only [execOp, Sem.run_bind, r1, Result.andThen_ok, invoke]
        exact run_callFunc k r2 _
      rw [hrun]
      refine hcalls.mono fun e w' he => ?_
      obtain ⟨ι', H', s', x', hm⟩ := he
      cases e with
      | returned v' =>
        obtain ⟨v, hv, hq⟩ := hm
        exact hK ι' _ H' (a.put xd v') w' s' x' ((hf.mono x'.le).put hlt hv) hq
      | panicked chain =>
        obtain ⟨v, v', rfl, hv, hq⟩ := hm
        exact hX ι' H' w' v v' s' x' hv hq
      | outgrown => exact hm.elim
    · exact h.elim
  case dfr f args =>
    cases oo <;> simp only [ckOp] at hop <;> try (cases hop; done)
    rename_i c
    simp only [evOp] at h
    split at h
    · rename_i g l hcal
      obtain ⟨caps, as, r1, r2, r3⟩ := callee_sound (P := P) (w := w) (ty := ty) hf.tm hop hcal
      unfold Oper.wp
      have hrun : (execOp a.eval ⟨xd, .defer c, ty, pos, af, og⟩).run P w = .ok (.defer { target := .fn (.func (L.φ g)) caps, args := as }) w := by
        simp only [execOp, Sem.run_bind, r1, Result.andThen_ok, Sem.run_pure]
      rw [hrun]
      have hput := hf.put (v := .un) (x := undef) hlt trivial
      refine hK ι ⟨(fr.put xd .un).tm, (g, l) :: fr.ds⟩ H _ w s (Ext.refl _ _ _) ?_ h
      have hds : (fr.put xd .un).ds = fr.ds := by cases xd <;> rfl
      refine ⟨?_, ?_, ?_⟩
      · cases xd <;> simp [Act.put, hf.size]
      · have := hput.tm
        cases xd <;> exact this
      · have : DsRel L ι ((g, l) :: fr.ds) ({ target := .fn (.func (L.φ g)) caps, args := as } :: a.defers) := .inl ⟨caps, as, _, rfl, r2, r3, hf.ds⟩
        cases xd <;> exact this
    · exact h.elim
  case pan y =>
    cases oo <;> simp only [ckOp] at hop <;> try (cases hop; done)
    rename_i y'
    simp only [evOp] at h
    split at h
    · rename_i t v hv
      obtain ⟨u, e, r⟩ := opd_rel hf.tm hop hv
      unfold Oper.wp
      have hrun : (execOp a.eval ⟨xd, .panic y', ty, pos, af, og⟩).run P w = .halt (.panic (.iface (L.τ t) u)) w := by
        simp only [execOp, e, Instr.panic, Sem.run_bind, run_goPanic, Result.andThen_halt]
      rw [hrun]
      exact hX ι H w (.ifc t v) (.iface (L.τ t) u) s (Ext.refl _ _ _) ⟨u, rfl, r⟩ h
    · exact h.elim
  case yc f args => simp [ckOp] at hop
  case mp q =>
    simp only [ckOp] at hop
    simp only [evOp] at h
    obtain ⟨v, v', H', w', ι', h1, h2, h3, h4, hk⟩ := evM_sound (o := ⟨xd, oo, ty, pos, af, og⟩) (nt := nt) s hf.tm hop h
    have hfin := hK ι' _ H' (a.put xd v') w' h2 h3 ((hf.mono h3.le).put hlt h4) hk
    unfold Oper.wp
    rcases h1 with h1 | ⟨h1, rfl⟩
    · rw [h1]; exact hfin
    · rw [h1]; exact hfin
  all_goals
    simp only [evOp] at h
    split at h
    · rename_i v H' hst
      exact gen v H' hop hst h
    · exact h.elim

theorem wanted_none {ops : Array Oper} {o : Oper} (h : o.guard = none) (tmps : Array Value) : Region.wanted o (yielded ops tmps) = true := by simp [Region.wanted, h]

theorem wanted_off {ops : Array Oper} {o : Oper} {j t : Nat} {want : Bool} {v : Value} {tmps : Array Value} (h : o.guard = some (j, want)) (hj : (ops[j]?).bind (·.dst) = some t) (ht : tmps[t]? = some v) (hv : ∀ b, v ≠ .bool b) :
    Region.wanted o (yielded ops tmps) = false := by
  have : yielded ops tmps j = none := by
    unfold yielded; rw [hj]; simp only [Option.bind_some, ht]; cases v <;> first | rfl | exact absurd rfl (hv _)
  simp [Region.wanted, h, this]
theorem wanted_some {ops : Array Oper} {o : Oper} {j t : Nat} {want b : Bool} {tmps : Array Value} (h : o.guard = some (j, want)) (hj : (ops[j]?).bind (·.dst) = some t) (ht : tmps[t]? = some (.bool b)) :
    Region.wanted o (yielded ops tmps) = (b == want) := by
  simp [Region.wanted, h, yielded, hj, ht]

/-- A list of operations, one by one. -/
def ckSeq (L : Lk) (P : Program) (nt : Nat) (ops : Array Oper) (yy : Bool := false) : List AOper → List Oper → Bool
  | [], [] => true
  | x :: r, o :: s => ckOper L P nt ops x o yy && ckSeq L P nt ops yy r s
  | _, _ => false

theorem evOps_sound {nt : Nat} {nd : Nat → Bool} {ops : Array Oper} (k : Linked0 L P) {ι0 : Im} {H0 : Heap} {w0 : World} (s0 : Sim L ι0 H0 w0) {K : Fr → Heap → Prop} {X : Fr → V → Heap → Prop} {Q : Post}
    (hK : ∀ fr H, K fr H → ∃ l, Q .normal (fr.keep l) H) (hX : ∀ fr v H, X fr v H → Q (.pan v) fr H) :
    ∀ (xs : List AOper) (os : List Oper) (fr : Fr) (H : Heap) (ι : Im) (a : Act) (w : World), ckSeq L P nt ops false xs os = true → Sim L ι H w → Ext ι0 H0 w0 ι H w → FrOk L nt ι fr a →
      evOps (SC L P nd) X K xs fr H → wpList P ops (LQ L nt ι0 H0 w0 Q) os a w
  | [], [], fr, H, ι, a, w, _, s, x, hf, h => by
    obtain ⟨l, hl⟩ := hK _ _ h
    exact ⟨ι, fr.keep l, H, s, x, hf.keep l, hl⟩
  | [], _ :: _, _, _, _, _, _, hc, _, _, _, _ => by simp [ckSeq] at hc
  | _ :: _, [], _, _, _, _, _, hc, _, _, _, _ => by simp [ckSeq] at hc
  | y :: r, o :: os, fr, H, ι, a, w, hc, s, x, hf, h => by
    simp only [ckSeq, Bool.and_eq_true] at hc
    obtain ⟨hc1, hc2⟩ := hc
    have one : evOp (SC L P nd) fr H y (evOps (SC L P nd) X K r) (X fr) → o.wp P a w (wpList P ops (LQ L nt ι0 H0 w0 Q) os) (LQ L nt ι0 H0 w0 Q) := fun h =>
      evOp_sound k hc1 s hf (fun ι' fr' H' a' w' s' x' hf' hk => evOps_sound k s0 hK hX r os fr' H' ι' a' w' hc2 s' (x.trans s0 s x') hf' hk)
        (fun ι' H' w' v v' s' x' hv hx => ⟨ι', fr, H', s', x.trans s0 s x', hf.mono x'.le, v, v', rfl, hv, hX _ _ _ hx⟩) h
    obtain ⟨hd, hlt, hg, hop⟩ := ckOper_spec hc1
    have skip : evOps (SC L P nd) X K r (fr.put y.dst (.tup [])) H → wpList P ops (LQ L nt ι0 H0 w0 Q) os (a.put o.dst undef) w := fun h =>
      evOps_sound k s0 hK hX r os _ H ι _ w hc2 s x (by rw [← hd]; exact hf.put hlt ⟨#[], rfl, rfl⟩) h
    unfold evOps at h
    unfold wpList
    cases hyg : y.g with
    | none =>
      rw [hyg] at h hg
      cases hog : o.guard with
      | some g => rw [hog] at hg; simp [ckGuard] at hg
      | none => rw [wanted_none hog, if_pos rfl]; exact .inl (one h)
    | some g =>
      obtain ⟨t, want⟩ := g
      rw [hyg] at h hg
      cases hog : o.guard with
      | none => rw [hog] at hg; simp [ckGuard] at hg
      | some g' =>
        obtain ⟨j, want'⟩ := g'
        rw [hog] at hg
        simp only [ckGuard, Bool.and_eq_true, beq_iff_eq] at hg
        obtain ⟨rfl, hj⟩ := hg
        dsimp only at h
        split at h
        · rename_i b hb
          obtain ⟨v', e1, e2⟩ := hf.tm t _ hb
          cases e2
          rw [wanted_some hog hj e1]
          unfold gif at h
          by_cases hw : (b == want) = true
          · rw [if_pos hw] at h; rw [if_pos hw]; exact .inl (one h)
          · rw [if_neg hw] at h; rw [if_neg hw]; exact skip h
        · rename_i hb
          obtain ⟨v', e1, vs, e2, e3⟩ := hf.tm t _ hb
          rw [wanted_off hog hj (by rw [e1, e2]) (fun b e => by cases e), if_neg (by decide)]; exact skip h
        · exact h.elim

end Go.Ab
namespace Go.Ab
variable {L : Lk} {P : Program}
def opdT : Opd → List Nat
  | .t n => [n]
  | _ => []
def opdsT : List Opd → List Nat
  | [] => []
  | x :: r => opdT x ++ opdsT r
def optT : Option Opd → List Nat
  | none => []
  | some x => opdT x
def p3T : List (Nat × Nat × Opd) → List Nat
  | [] => []
  | (_, _, x) :: r => opdT x ++ p3T r
def p2T : List (Nat × Opd) → List Nat
  | [] => []
  | (_, x) :: r => opdT x ++ p2T r

/-- The temporaries that an operation reads. -/
def AOp.reads : AOp → List Nat
  | .mv x => opdT x
  | .pick c a b => opdT c ++ opdT a ++ opdT b
  | .bin _ _ x y => opdT x ++ opdT y
  | .un _ x => opdT x
  | .conv _ x => opdT x
  | .load _ a => opdT a
  | .store _ a x => opdT a ++ opdT x
  | .alloc _ => []
  | .box _ x => opdT x
  | .build _ ps => p3T ps
  | .bslice _ _ _ ps => p2T ps
  | .mkslice _ _ _ l c => opdT l ++ opdT c
  | .slice _ x lo hi mx => opdT x ++ optT lo ++ optT hi ++ optT mx
  | .substr x lo hi => opdT x ++ optT lo ++ optT hi
  | .fad _ x => opdT x
  | .fld _ _ x => opdT x
  | .iad _ _ x i => opdT x ++ opdT i
  | .idx _ _ _ x i => opdT x ++ opdT i
  | .nilck x => opdT x
  | .ext _ x => opdT x
  | .mkifc _ x => opdT x
  | .mkfn _ f c => opdsT f ++ opdsT c
  | .len _ x => opdT x
  | .slen x => opdT x
  | .asrt _ x => opdT x
  | .isnil _ x => opdT x
  | .append _ _ x y => opdT x ++ opdT y
  | .copy _ x y => opdT x ++ opdT y
  | .mm _ xs => opdsT xs
  | .call f args => opdT f ++ opdsT args
  | .yc f args => opdT f ++ opdsT args
  | .dfr f args => opdT f ++ opdsT args
  | .pan x => opdT x
  | .mp q => (match q with | .mk => [] | .look _ _ m k => opdT m ++ opdT k | .upd m k v => opdT m ++ opdT k ++ opdT v | .range m => opdT m | .next it => opdT it | .entry it => opdT it | .app2 _ _ x y => opdT x ++ opdT y | .del m k => opdT m ++ opdT k | .mark x => opdT x | .s2b x => opdT x | .b2s x => opdT x)

def Agree (fr fr' : Fr) (l : List Nat) : Prop := ∀ t ∈ l, fr.get t = fr'.get t

theorem opd_agree {fr fr' : Fr} {x : Opd} (h : Agree fr fr' (opdT x)) : opd fr x = opd fr' x := by
  cases x <;> first | rfl | exact h _ (by simp [opdT])
theorem Agree.left {fr fr' : Fr} {a b : List Nat} (h : Agree fr fr' (a ++ b)) : Agree fr fr' a := fun t ht => h t (List.mem_append_left _ ht)
theorem Agree.right {fr fr' : Fr} {a b : List Nat} (h : Agree fr fr' (a ++ b)) : Agree fr fr' b := fun t ht => h t (List.mem_append_right _ ht)
theorem opds_agree {fr fr' : Fr} : ∀ {xs : List Opd}, Agree fr fr' (opdsT xs) → opds fr xs = opds fr' xs
  | [], _ => rfl
  | x :: r, h => by simp only [opds, opd_agree h.left, opds_agree (xs := r) h.right]
theorem optd_agree {fr fr' : Fr} {x : Option Opd} (h : Agree fr fr' (optT x)) : optd fr x = optd fr' x := by
  cases x with
  | none => rfl
  | some x => simp only [optd, opd_agree (x := x) h]
theorem p3_agree {fr fr' : Fr} : ∀ {xs : List (Nat × Nat × Opd)}, Agree fr fr' (p3T xs) → parts3 fr xs = parts3 fr' xs
  | [], _ => rfl
  | (_, _, x) :: r, h => by simp only [parts3, opd_agree (x := x) h.left, p3_agree (xs := r) h.right]
theorem p2_agree {fr fr' : Fr} {n : Nat} : ∀ {xs : List (Nat × Opd)}, Agree fr fr' (p2T xs) → parts2 fr n xs = parts2 fr' n xs
  | [], _ => rfl
  | (_, x) :: r, h => by simp only [parts2, opd_agree (x := x) h.left, p2_agree (xs := r) h.right]

theorem fresh_agree {fr fr' : Fr} {p : AOp} (h : Agree fr fr' p.reads) : fresh fr p = fresh fr' p := by
  cases p <;> simp only [AOp.reads] at h <;> simp only [fresh]
  case box n x => rw [opd_agree h]
  case bslice => rw [p2_agree h]
  case mkslice => rw [opd_agree h.left, opd_agree h.right]

theorem step_agree {fr fr' : Fr} {H : Heap} {p : AOp} (h : Agree fr fr' p.reads) : step fr H p = step fr' H p := by
  cases p <;> (try simp only [AOp.reads] at h) <;> simp only [step]
  case mv => rw [opd_agree h]
  case pick => rw [opd_agree h.left.left, opd_agree h.left.right, opd_agree h.right]
  case bin => rw [opd_agree h.left, opd_agree h.right]
  case un => rw [opd_agree h]
  case conv => rw [opd_agree h]
  case load => rw [opd_agree h]
  case store => rw [opd_agree h.left, opd_agree h.right]
  case alloc => rw [fresh_agree (p := .alloc _) h]
  case box => rw [fresh_agree (p := .box _ _) h]
  case bslice => rw [fresh_agree (p := .bslice _ _ _ _) h]
  case mkslice => rw [fresh_agree (p := .mkslice _ _ _ _ _) h]
  case build => rw [p3_agree h]
  case slice => rw [opd_agree h.left.left.left, optd_agree h.left.left.right, optd_agree h.left.right, optd_agree h.right]
  case substr => rw [opd_agree h.left.left, optd_agree h.left.right, optd_agree h.right]
  case fad => rw [opd_agree h]
  case fld => rw [opd_agree h]
  case iad => rw [opd_agree h.left, opd_agree h.right]
  case idx => rw [opd_agree h.left, opd_agree h.right]
  case nilck => rw [opd_agree h]
  case ext => rw [opd_agree h]
  case mkifc => rw [opd_agree h]
  case mkfn => rw [opds_agree h.left, opds_agree h.right]
  case len arr x => cases arr <;> simp only [step, opd_agree h]
  case slen => rw [opd_agree h]
  case asrt => rw [opd_agree h]
  case isnil => rw [opd_agree h]
  case append => rw [opd_agree h.left, opd_agree h.right]
  case copy => rw [opd_agree h.left, opd_agree h.right]
  case mm => rw [opds_agree h]

theorem callee_agree {fr fr' : Fr} {f : Opd} {args : List Opd} (h : Agree fr fr' (opdT f ++ opdsT args)) : callee fr f args = callee fr' f args := by
  unfold callee; rw [opd_agree h.left, opds_agree h.right]

/-- Operations whose value hangs on the temporaries alone. -/
def pureOp : AOp → Bool
  | .load _ _ => false
  | .store _ _ _ => false
  | .alloc _ => false
  | .box _ _ => false
  | .bslice _ _ _ _ => false
  | .mkslice _ _ _ _ _ => false
  | .append _ _ _ _ => false
  | .copy _ _ _ => false
  | .call _ _ => false
  | .yc _ _ => false
  | .dfr _ _ => false
  | .pan _ => false
  | .mp _ => false
  | _ => true

theorem map_heap {α : Type} {o : Option α} {f : α → V} {H H' H1 : Heap} {v : V} (h : (o.map fun u => (f u, H)) = some (v, H1)) : H1 = H ∧ (o.map fun u => (f u, H')) = some (v, H') := by
  cases o with
  | none => cases h
  | some u => cases h; exact ⟨rfl, rfl⟩

theorem pure_step {fr : Fr} {H H' H1 : Heap} {p : AOp} {v : V} (hp : pureOp p = true) (h : step fr H p = some (v, H1)) : H1 = H ∧ step fr H' p = some (v, H') := by
  cases p <;> simp only [pureOp] at hp <;> (try cases hp)
  case pick c a b =>
    simp only [step] at h ⊢
    split at h
    · exact map_heap (f := fun v => v) h
    · cases h
  case idx arr esz n x i =>
    simp only [step] at h ⊢
    split at h
    · cases arr with
      | none => cases h
      | some m =>
        dsimp only at h ⊢
        split at h
        · rename_i hj; rw [if_pos hj]; exact map_heap (f := fun v => v) h
        · cases h
    · cases arr with
      | none =>
        dsimp only at h ⊢
        split at h
        · rename_i hj; rw [if_pos hj]; exact map_heap (f := fun b => V.int .u8 (UInt8.toNat b)) h
        · cases h
      | some m => cases h
    · cases h
  case len arr x =>
    cases arr with
    | none =>
      simp only [step] at h ⊢
      split at h
      · cases h; simp_all
      · cases h
    | some n =>
      simp only [step] at h ⊢
      exact map_heap (f := fun _ => V.int .i64 n) h
  case mkifc t x => exact map_heap (f := fun v => V.ifc t v) h
  all_goals simp only [step] at h ⊢
  all_goals (repeat' split at h) 
  all_goals first
    | (cases h; done)
    | exact map_heap (f := fun v => v) h
    | exact map_heap (f := V.bool) h
    | exact map_heap (f := V.agg) h
    | exact map_heap (f := fun b => V.int .u8 (UInt8.toNat b)) h
    | exact map_heap (f := fun _ => V.int .i64 _) h
    | (cases h; simp_all; done)
    | (simp_all; done)
    | skip

/-- Operation i stands ahead of operation j, by edges that bind in every mode. -/
inductive Anc (ops : Array Oper) : Nat → Nat → Prop where
  | edge {i j : Nat} {o : Oper} {e : Edge} (h : ops[j]? = some o) (he : e ∈ o.after) (hb : Region.binds .any e = true) (hi : e.on = i) : Anc ops i j
  | step {i j : Nat} {o : Oper} {e : Edge} (h : ops[j]? = some o) (he : e ∈ o.after) (hb : Region.binds .any e = true) (ha : Anc ops i e.on) : Anc ops i j

/-- What is listed is closed. -/
def Closed (ops : Array Oper) (listed : Array Bool) : Prop :=
  ∀ (j : Nat) (o : Oper), ops[j]? = some o → listed.getD j false = true → ∀ e ∈ o.after, Region.binds .any e = true → listed.getD e.on false = true

theorem Anc.listed {ops : Array Oper} {listed : Array Bool} (hc : Closed ops listed) {i j : Nat} (h : Anc ops i j) : listed.getD j false = true → listed.getD i false = true := by
  induction h with
  | edge h he hb hi => intro hl; rw [← hi]; exact hc _ _ h hl _ he hb
  | step h he hb _ ih => intro hl; exact ih (hc _ _ h hl _ he hb)

theorem Anc.ready {ops : Array Oper} {listed : Array Bool} (hc : Closed ops listed) {i j : Nat} (h : Anc ops i j) (hr : j ∈ Region.ready .any ops listed) : listed.getD i false = true := by
  obtain ⟨_, o, ho, hall⟩ := mem_ready.1 hr
  cases h with
  | edge h he hb hi => rw [ho] at h; cases h; rw [← hi]; exact hall _ he hb
  | step h he hb ha => rw [ho] at h; cases h; exact ha.listed hc (hall _ he hb)

theorem Closed.set {ops : Array Oper} {listed : Array Bool} (hc : Closed ops listed) {j : Nat} (hr : j ∈ Region.ready .any ops listed) : Closed ops (listed.setIfInBounds j true) := by
  intro k o hk hl e he hb
  by_cases hjk : j = k
  · subst hjk
    obtain ⟨_, o', ho, hall⟩ := mem_ready.1 hr
    rw [hk] at ho; cases ho
    exact getD_set_true (hall e he hb)
  · rw [getD_set_ne false hjk] at hl
    exact getD_set_true (hc k o hk hl e he hb)

/-- A set of small numbers, as the bits of one. -/
structure Msk where
  n : Nat
instance : Membership Nat Msk := ⟨fun m k => m.n.testBit k = true⟩
def Msk.contains (m : Msk) (k : Nat) : Bool := m.n.testBit k
theorem Msk.contains_iff {m : Msk} {k : Nat} : m.contains k = true ↔ k ∈ m := Iff.rfl

/-- The ancestors, computed along a canonical order: a table of each operation's. -/
def ancN (tab : List (Nat × Msk)) : List Edge → Nat
  | [] => 0
  | e :: r => Nat.lor (if Region.binds .any e then Nat.lor (2 ^ e.on) (((tab.find? (·.1 == e.on)).map (·.2.n)).getD 0) else 0) (ancN tab r)
def ancOf (tab : List (Nat × Msk)) (o : Oper) : Msk := ⟨ancN tab o.after.toList⟩

theorem lor_bit (a b k : Nat) : (Nat.lor a b).testBit k = (a.testBit k || b.testBit k) := Nat.testBit_or a b k
theorem ancN_spec {tab : List (Nat × Msk)} : ∀ {l : List Edge} {k : Nat}, (ancN tab l).testBit k = true → ∃ e ∈ l, Region.binds .any e = true ∧ (k = e.on ∨ ∃ x, tab.find? (·.1 == e.on) = some x ∧ k ∈ x.2)
  | [], k, h => by simp [ancN] at h
  | e :: r, k, h => by
    rw [ancN, lor_bit, Bool.or_eq_true] at h
    rcases h with h | h
    · split at h
      · rename_i hb
        rw [lor_bit, Bool.or_eq_true] at h
        refine ⟨e, List.mem_cons_self, hb, ?_⟩
        rcases h with h | h
        · rw [Nat.testBit_two_pow] at h
          exact Or.inl (of_decide_eq_true h).symm
        · cases hf : tab.find? (·.1 == e.on) with
          | none => rw [hf] at h; simp at h
          | some x => rw [hf] at h; exact Or.inr ⟨x, rfl, h⟩
      · simp at h
    · obtain ⟨e', h1, h2⟩ := ancN_spec h
      exact ⟨e', List.mem_cons_of_mem _ h1, h2⟩
theorem ancOf_spec {ops : Array Oper} {tab : List (Nat × Msk)} {j : Nat} {o : Oper} (ht : ∀ i l, (i, l) ∈ tab → ∀ k ∈ l, Anc ops k i) (hj : ops[j]? = some o) : ∀ k ∈ ancOf tab o, Anc ops k j := by
  intro k hk
  obtain ⟨e, he, hb, h⟩ := ancN_spec hk
  have he' : e ∈ o.after := by simpa using he
  rcases h with rfl | ⟨x, hf, hk⟩
  · exact .edge hj he' hb rfl
  · obtain ⟨i, l⟩ := x
    have hi := List.find?_some hf
    simp only [beq_iff_eq] at hi
    subst hi
    exact .step hj he' hb (ht _ _ (List.mem_of_find?_eq_some hf) k hk)

end Go.Ab
namespace Go.Ab
variable {L : Lk} {P : Program}
theorem Anc.trans {ops : Array Oper} {i j k : Nat} (h : Anc ops i j) (h' : Anc ops j k) : Anc ops i k := by
  induction h' with
  | edge h1 he hb hi => subst hi; exact .step h1 he hb h
  | step h1 he hb _ ih => exact .step h1 he hb ih

def isLoad : AOp → Bool
  | .load _ _ => true
  | _ => false
def isFresh : AOp → Bool
  | .alloc _ => true
  | .box _ _ => true
  | .bslice _ _ _ _ => true
  | .mkslice _ _ _ _ _ => true
  | _ => false
/-- What another order may carry out later. -/
def late (p : AOp) : Bool := pureOp p || isLoad p || isFresh p

def AOper.names (x : AOper) : List Nat := x.op.reads ++ (match x.g with | some (t, _) => [t] | none => [])

def dstIn (x : AOper) (l : List Nat) : Bool := match x.dst with
  | some t => l.contains t
  | none => false
def sameDst (x y : AOper) : Bool := match x.dst, y.dst with
  | some t, some u => t == u
  | _, _ => false

/-- The check, along the canonical order. -/
def ckD (L : Lk) (P : Program) (nt : Nat) (ops : Array Oper) : List (Nat × Msk) → List AOper → Option Nat → List AOper → Bool
  | _, _, _, [] => true
  | tab, done, last, x :: r => match ops[x.ix]? with
    | none => false
    | some o =>
      ckOper L P nt ops x o && !dstIn x x.names && o.after.toList.all (fun e => !Region.binds .any e || done.any fun y => y.ix == e.on) &&
      done.all (fun y => y.ix != x.ix && !sameDst x y && (!(dstIn x y.names || dstIn y x.names) || (ancOf tab o).contains y.ix)) &&
      (match last with | none => true | some k => (ancOf tab o).contains k) &&
      (late x.op || done.all fun y => !(isLoad y.op || isFresh y.op) || (ancOf tab o).contains y.ix || (x.re.contains y.ix && !dstIn x y.names && (done.takeWhile (fun z => z.ix != y.ix)).all fun z => !dstIn z y.names)) &&
      ckD L P nt ops ((x.ix, ancOf tab o) :: tab) (x :: done) (if late x.op then last else some x.ix) r

def ckDraw (L : Lk) (P : Program) (nt : Nat) (ops : Array Oper) (xs : List AOper) : Bool :=
  xs.length == ops.size && (List.range ops.size).all (fun i => xs.any fun x => x.ix == i) && ckD L P nt ops [] [] none xs

/-- What one step of the check says. -/
structure CkStep (L : Lk) (P : Program) (nt : Nat) (ops : Array Oper) (tab : List (Nat × Msk)) (done : List AOper) (last : Option Nat) (x : AOper) (r : List AOper) (o : Oper) : Prop where
  at_ : ops[x.ix]? = some o
  oper : ckOper L P nt ops x o = true
  self : dstIn x x.names = false
  edges : ∀ e ∈ o.after, Region.binds .any e = true → ∃ y ∈ done, y.ix = e.on
  fresh : ∀ y ∈ done, y.ix ≠ x.ix
  dsts : ∀ y ∈ done, sameDst x y = false
  conf : ∀ y ∈ done, (dstIn x y.names = true ∨ dstIn y x.names = true) → Anc ops y.ix x.ix
  last_ : ∀ k, last = some k → Anc ops k x.ix
  re : late x.op = false → ∀ y ∈ done, (isLoad y.op = true ∨ isFresh y.op = true) → ¬ Anc ops y.ix x.ix → x.re.contains y.ix = true ∧ dstIn x y.names = false ∧ ∀ z ∈ done.takeWhile (fun z => z.ix != y.ix), dstIn z y.names = false
  rest : ckD L P nt ops ((x.ix, ancOf tab o) :: tab) (x :: done) (if late x.op then last else some x.ix) r = true
  tab_ : ∀ i l, (i, l) ∈ (x.ix, ancOf tab o) :: tab → ∀ k ∈ l, Anc ops k i

theorem ckD_step {nt : Nat} {ops : Array Oper} {tab : List (Nat × Msk)} {done : List AOper} {last : Option Nat} {x : AOper} {r : List AOper} (ht : ∀ i l, (i, l) ∈ tab → ∀ k ∈ l, Anc ops k i)
    (h : ckD L P nt ops tab done last (x :: r) = true) : ∃ o, CkStep L P nt ops tab done last x r o := by
  unfold ckD at h
  split at h
  · cases h
  · rename_i o ho
    simp only [Bool.and_eq_true] at h
    obtain ⟨⟨⟨⟨⟨⟨h1, h0⟩, h2⟩, h3⟩, h4⟩, h5⟩, h6⟩ := h
    have hanc := ancOf_spec ht ho
    rw [List.all_eq_true] at h2 h3
    refine ⟨o, ho, h1, by simpa using h0, fun e he hb => ?_, fun y hy => ?_, fun y hy => ?_, fun y hy hc => ?_, fun k hk => ?_, fun hl y hy hc hna => ?_, h6, fun i l hil k hk => ?_⟩
    · have := h2 e (by simpa using he)
      simp only [hb, Bool.not_true, Bool.false_or, List.any_eq_true, beq_iff_eq] at this
      exact this
    · have := h3 y hy; simp only [Bool.and_eq_true, bne_iff_ne] at this; exact this.1.1
    · have := h3 y hy; simp only [Bool.and_eq_true, Bool.not_eq_true'] at this; exact this.1.2
    · have := (and2 (h3 y hy)).2
      have hcc : (dstIn x y.names || dstIn y x.names) = true := by simpa using hc
      rw [hcc] at this
      simp only [Bool.not_true, Bool.false_or] at this
      exact hanc _ (Msk.contains_iff.1 this)
    · subst hk
      exact hanc _ (Msk.contains_iff.1 h4)
    · rw [hl] at h5
      simp only [Bool.false_or, List.all_eq_true] at h5
      have h5 := h5 y hy
      have hcc : (isLoad y.op || isFresh y.op) = true := by simpa using hc
      have hnc : (ancOf tab o).contains y.ix = false := by
        cases hx : (ancOf tab o).contains y.ix with
        | false => rfl
        | true => exact absurd (hanc _ (Msk.contains_iff.1 hx)) hna
      rw [hcc, hnc] at h5
      simp only [Bool.not_true, Bool.false_or, Bool.and_eq_true, Bool.not_eq_true', List.all_eq_true] at h5
      exact ⟨h5.1.1, h5.1.2, h5.2⟩
    · rcases List.mem_cons.1 hil with he | he
      · cases he; exact hanc k hk
      · exact ht i l he k hk

/-- All that stands behind a writing operation waits for it. -/
theorem ckD_last {nt : Nat} {ops : Array Oper} {k : Nat} : ∀ (r : List AOper) {tab : List (Nat × Msk)} {done : List AOper} {m : Nat}, (∀ i l, (i, l) ∈ tab → ∀ k ∈ l, Anc ops k i) →
    (m = k ∨ Anc ops k m) → ckD L P nt ops tab done (some m) r = true → ∀ x ∈ r, Anc ops k x.ix
  | [], _, _, _, _, _, _, x, hx => by simp at hx
  | y :: r, tab, done, m, ht, hm, h, x, hx => by
    obtain ⟨o, c⟩ := ckD_step ht h
    have hy : Anc ops k y.ix := by
      rcases hm with rfl | hm
      · exact c.last_ _ rfl
      · exact hm.trans (c.last_ _ rfl)
    rcases List.mem_cons.1 hx with rfl | hx
    · exact hy
    · have hr := c.rest
      by_cases hl : late y.op = true
      · rw [if_pos hl] at hr; exact ckD_last r c.tab_ hm hr x hx
      · rw [if_neg hl] at hr; exact ckD_last r c.tab_ (.inr hy) hr x hx

theorem ckD_fresh {nt : Nat} {ops : Array Oper} : ∀ (r : List AOper) {tab : List (Nat × Msk)} {done : List AOper} {last : Option Nat}, (∀ i l, (i, l) ∈ tab → ∀ k ∈ l, Anc ops k i) →
    ckD L P nt ops tab done last r = true → ∀ x ∈ r, ∀ y ∈ done, y.ix ≠ x.ix
  | [], _, _, _, _, _, x, hx, _, _ => by simp at hx
  | z :: r, tab, done, last, ht, h, x, hx, y, hy => by
    obtain ⟨o, c⟩ := ckD_step ht h
    rcases List.mem_cons.1 hx with rfl | hx
    · exact c.fresh y hy
    · exact ckD_fresh r c.tab_ c.rest x hx y (List.mem_cons_of_mem _ hy)

/-- Pending: carried out by the abstract machine, not yet by the model's. -/
structure Pe where
  x : AOper
  fi : Fr
  v : V
  b : Option Nat

/-- Is it carried out? -/
def Wants (fi : Fr) (x : AOper) : Prop := x.g = none ∨ ∃ t want, x.g = some (t, want) ∧ fi.get t = some (.bool want)
def Skips (fi : Fr) (x : AOper) : Prop := ∃ t want, x.g = some (t, want) ∧ (fi.get t = some (.bool !want) ∨ fi.get t = some (.tup []))

/-- What is known of it now. -/
def PVal (H0 : Heap) (ι : Im) (H : Heap) (p : Pe) : Prop :=
  (Skips p.fi p.x ∧ p.v = .tup [] ∧ p.b = none) ∨
  (Wants p.fi p.x ∧ ((isFresh p.x.op = false ∧ p.b = none ∧ step p.fi H p.x.op = some (p.v, H)) ∨
    (isFresh p.x.op = true ∧ ∃ cs mk b, p.b = some b ∧ fresh p.fi p.x.op = some (cs, mk) ∧ p.v = mk b ∧ ι b = none ∧ b < H.next ∧ H0.next ≤ b ∧ H.get b = .cells cs true)))

def Topo (ops : Array Oper) : List AOper → Prop
  | [] => True
  | x :: l => (∀ o, ops[x.ix]? = some o → ∀ e ∈ o.after, Region.binds .any e = true → ∃ y ∈ l, y.ix = e.on) ∧ Topo ops l

structure Inv (L : Lk) (P : Program) (nd : Nat → Bool) (nt : Nat) (ops : Array Oper) (ι0 : Im) (H0 : Heap) (w0 : World) (X : Fr → V → Heap → Prop) (K : Fr → Heap → Prop)
    (tab : List (Nat × Msk)) (done : List AOper) (last : Option Nat) (cl : List AOper) (pend : List Pe) (fs fr : Fr) (H : Heap) (ι : Im) (listed : Array Bool) (a : Act) (w : World) : Prop where
  ck : ckD L P nt ops tab done last cl = true
  tab_ : ∀ i l, (i, l) ∈ tab → ∀ k ∈ l, Anc ops k i
  topo : Topo ops done
  opers : ∀ y ∈ done, ∃ o, ops[y.ix]? = some o ∧ ckOper L P nt ops y o = true
  dix : ∀ y ∈ done, ∀ z ∈ done, y.ix = z.ix → y = z
  dsts : ∀ y ∈ done, ∀ z ∈ done, y.ix ≠ z.ix → sameDst y z = false
  conf : ∀ y ∈ done, ∀ z ∈ done, y.ix ≠ z.ix → dstIn y z.names = true → Anc ops y.ix z.ix ∨ Anc ops z.ix y.ix
  cover : ∀ j, j < ops.size → (∃ y ∈ done, y.ix = j) ∨ ∃ x ∈ cl, x.ix = j
  clix : ∀ x ∈ cl, x.ix < ops.size
  lsize : listed.size = ops.size
  closed : Closed ops listed
  ldone : ∀ y ∈ done, listed.getD y.ix false = true ∨ ∃ p ∈ pend, p.x = y
  lpend : ∀ p ∈ pend, listed.getD p.x.ix false = false
  lcl : ∀ x ∈ cl, listed.getD x.ix false = false
  pdone : ∀ p ∈ pend, p.x ∈ done
  plate : ∀ p ∈ pend, late p.x.op = true ∨ Skips p.fi p.x
  pnodup : (pend.map (·.x.ix)).Nodup
  pb : ∀ p ∈ pend, ∀ q ∈ pend, p.x.ix ≠ q.x.ix → ∀ b, p.b = some b → q.b ≠ some b
  pval : ∀ p ∈ pend, PVal H0 ι H p
  noself : ∀ p ∈ pend, ∀ t ∈ p.x.names, p.x.dst ≠ some t
  p6a : ∀ p ∈ pend, ∀ q ∈ pend, Anc ops q.x.ix p.x.ix → ∀ t, q.x.dst = some t → t ∈ p.x.names → p.fi.get t = some q.v
  p6b : ∀ p ∈ pend, ∀ t ∈ p.x.names, (∀ q ∈ pend, Anc ops q.x.ix p.x.ix → q.x.dst ≠ some t) → fs.get t = p.fi.get t
  p9 : ∀ p ∈ pend, ∀ t ∈ p.x.names, (∀ z ∈ done.takeWhile (fun z => z.ix != p.x.ix), z.dst ≠ some t) → p.x.dst ≠ some t → fr.get t = p.fi.get t
  f7a : ∀ t, (∀ p ∈ pend, p.x.dst ≠ some t) → fs.get t = fr.get t
  f7b : ∀ p ∈ pend, ∀ t, p.x.dst = some t → fr.get t = some p.v
  fds : fs.ds = fr.ds
  run : evD (SC L P nd) X K done cl fr H
  sim0 : Sim L ι0 H0 w0
  sim : Sim L ι H w
  ext : Ext ι0 H0 w0 ι H w
  ok : FrOk L nt ι fs a

theorem sameDst_spec {x y : AOper} (h : sameDst x y = false) : ∀ t, x.dst = some t → y.dst ≠ some t := by
  intro t h1 h2; simp [sameDst, h1, h2] at h
theorem dstIn_spec {x : AOper} {l : List Nat} (h : dstIn x l = false) : ∀ t, x.dst = some t → t ∉ l := by
  intro t h1 h2; simp [dstIn, h1] at h; exact h h2
theorem dstIn_of {x : AOper} {l : List Nat} {t : Nat} (h : x.dst = some t) (ht : t ∈ l) : dstIn x l = true := by simp [dstIn, h, ht]

theorem frput_get {fr : Fr} {d : Option Nat} {v : V} (t : Nat) : (fr.put d v).get t = if d = some t then some v else fr.get t := by
  cases d with
  | none => simp [Fr.put]
  | some u => simp only [Fr.put, Fr.get, look, Option.some.injEq]


theorem Inv.ne_self {x : AOper} (h : dstIn x x.names = false) {t : Nat} (ht : t ∈ x.names) : x.dst ≠ some t := fun e => dstIn_spec h t e ht

/-- What stands ahead of a done one is done. -/
theorem Topo.anc {ops : Array Oper} : ∀ {done : List AOper}, Topo ops done → ∀ {i j : Nat}, Anc ops i j → (∃ y ∈ done, y.ix = j) → ∃ y ∈ done, y.ix = i := by
  intro done ht i j h
  have one : ∀ {done : List AOper}, Topo ops done → ∀ {j : Nat} {o : Oper} {e : Edge}, ops[j]? = some o → e ∈ o.after → Region.binds .any e = true → (∃ y ∈ done, y.ix = j) → ∃ y ∈ done, y.ix = e.on := by
    intro done ht j o e hj he hb hy
    induction done with
    | nil => obtain ⟨y, hy, _⟩ := hy; simp at hy
    | cons x l ih =>
      obtain ⟨y, hy, hyj⟩ := hy
      rcases List.mem_cons.1 hy with rfl | hy
      · obtain ⟨z, hz, hze⟩ := ht.1 o (by rw [hyj]; exact hj) e he hb
        exact ⟨z, List.mem_cons_of_mem _ hz, hze⟩
      · obtain ⟨z, hz, hze⟩ := ih ht.2 ⟨y, hy, hyj⟩
        exact ⟨z, List.mem_cons_of_mem _ hz, hze⟩
  induction h with
  | edge h1 he hb hi => intro hd; rw [← hi]; exact one ht h1 he hb hd
  | step h1 he hb _ ih => intro hd; exact ih (one ht h1 he hb hd)

theorem load_step {fi : Fr} {H H1 : Heap} {n : Option Nat} {x : Opd} {v : V} : step fi H (.load n x) = some (v, H1) ↔ ∃ b o, opd fi x = some (.ptr (some (b, o))) ∧ rd H n b o = some v ∧ H1 = H := by
  simp only [step]
  constructor
  · intro h
    split at h
    · rename_i b o e
      simp only [Option.map_eq_some_iff] at h
      obtain ⟨u, h1, h2⟩ := h; cases h2
      exact ⟨b, o, e, h1, rfl⟩
    · cases h
  · rintro ⟨b, o, e, h1, rfl⟩
    rw [e]; simp [h1]

theorem fresh_inj {fr : Fr} {p : AOp} {cs : List V} {mk : Nat → V} {b b' : Nat} (h : fresh fr p = some (cs, mk)) (he : mk b = mk b') : b = b' := by
  cases p <;> simp only [fresh] at h <;> (try cases h)
  · simpa using he
  all_goals
    repeat' split at h
    all_goals first
      | (cases h; done)
      | (cases h; simpa using he)

/-- The heap has grown by a block: what was known is known. -/
theorem PVal.new {L : Lk} {H0 H : Heap} {ι : Im} {w : World} {p : Pe} (s : Sim L ι H w) (o : Obj) (hl : late p.x.op = true ∨ Skips p.fi p.x) (h : PVal H0 ι H p) : PVal H0 ι (H.new o) p := by
  have hget : ∀ x, x ≠ H.next → (H.new o).get x = H.get x := fun x hx => by
    show (if x = H.next then o else H.get x) = _; rw [if_neg hx]
  rcases h with h | ⟨hw, h⟩
  · exact .inl h
  · rcases h with ⟨h1, h2, h3⟩ | ⟨h1, cs, mk, b, h2, h3, h4, h5, h6, h7, h8⟩
    · refine .inr ⟨hw, .inl ⟨h1, h2, ?_⟩⟩
      by_cases hp : pureOp p.x.op = true
      · exact (pure_step hp h3).2
      · have hlt : late p.x.op = true := by
          rcases hl with hl | ⟨t, want, e1, e2⟩
          · exact hl
          · exfalso
            rcases hw with hw | ⟨t', want', e3, e4⟩
            · rw [hw] at e1; cases e1
            · rw [e1] at e3; cases e3; rw [e4] at e2; rcases e2 with e2 | e2 <;> cases want <;> cases e2
        have hld : isLoad p.x.op = true := by
          simp only [late, Bool.or_eq_true, h1, Bool.false_eq_true, or_false] at hlt
          exact hlt.resolve_left hp
        cases hop : p.x.op <;> rw [hop] at hld <;> simp only [isLoad] at hld <;> (try cases hld)
        rw [hop] at h3
        obtain ⟨b, q, e1, e2, _⟩ := load_step.1 h3
        refine load_step.2 ⟨b, q, e1, ?_, rfl⟩
        have hb : b ≠ H.next := fun hb => by
          subst hb; unfold rd at e2; rw [s.dn _ (Nat.le_refl _)] at e2; cases e2
        unfold rd at e2 ⊢
        rw [hget b hb]; exact e2
    · exact .inr ⟨hw, .inr ⟨h1, cs, mk, b, h2, h3, h4, h5, Nat.lt_succ_of_lt h6, h7, by rw [hget b (by omega)]; exact h8⟩⟩


section
variable {nd : Nat → Bool} {nt : Nat} {ops : Array Oper} {ι0 : Im} {H0 : Heap} {w0 : World} {X : Fr → V → Heap → Prop} {K : Fr → Heap → Prop}
variable {tab : List (Nat × Msk)} {done : List AOper} {last : Option Nat} {cl : List AOper} {pend : List Pe} {fs fr : Fr} {H : Heap} {ι : Im} {listed : Array Bool} {a : Act} {w : World}
/-- The canonical order's next operation becomes pending. -/
theorem Inv.push {x : AOper} {r : List AOper} {v : V} {b : Option Nat} {H' : Heap} (h : Inv L P nd nt ops ι0 H0 w0 X K tab done last (x :: r) pend fs fr H ι listed a w)
    (hl : late x.op = true ∨ Skips fr x) (hv : PVal H0 ι H' ⟨x, fr, v, b⟩) (hold : ∀ p ∈ pend, PVal H0 ι H' p) (hb : ∀ p ∈ pend, ∀ c, b = some c → p.b ≠ some c)
    (hs : Sim L ι H' w) (hx : Ext ι0 H0 w0 ι H' w) (hrun : evD (SC L P nd) X K (x :: done) r (fr.put x.dst v) H') :
    ∃ tab' last', Inv L P nd nt ops ι0 H0 w0 X K tab' (x :: done) last' r (⟨x, fr, v, b⟩ :: pend) fs (fr.put x.dst v) H' ι listed a w := by
  obtain ⟨o, c⟩ := ckD_step h.tab_ h.ck
  have hxd : ∀ p ∈ pend, p.x.ix ≠ x.ix := fun p hp => c.fresh _ (h.pdone p hp)
  have hpd : ∀ p ∈ pend, ∀ t, x.dst = some t → p.x.dst ≠ some t := fun p hp t ht => sameDst_spec (c.dsts _ (h.pdone p hp)) t ht
  have hnoanc : ∀ p ∈ pend, ¬ Anc ops x.ix p.x.ix := fun p hp ha => by
    obtain ⟨y, hy, hyx⟩ := h.topo.anc ha ⟨p.x, h.pdone p hp, rfl⟩
    exact c.fresh y hy hyx
  have hlr := c.rest
  refine ⟨_, _, {
    ck := hlr, tab_ := c.tab_, topo := ⟨fun o' ho' e he hb => ?_, h.topo⟩, opers := fun y hy => ?_, dix := fun y hy z hz e => ?_, dsts := fun y hy z hz e => ?_, conf := fun y hy z hz e hc => ?_,
    cover := fun j hj => ?_, clix := fun y hy => h.clix y (List.mem_cons_of_mem _ hy), lsize := h.lsize, closed := h.closed, ldone := fun y hy => ?_, lpend := fun p hp => ?_,
    lcl := fun y hy => h.lcl y (List.mem_cons_of_mem _ hy), pdone := fun p hp => ?_, plate := fun p hp => ?_, pnodup := ?_, pb := fun p hp q hq e c' hc' => ?_, pval := fun p hp => ?_, noself := fun p hp t ht => ?_, p6a := fun p hp q hq ha t ht1 ht2 => ?_, p6b := fun p hp t ht hno => ?_,
    p9 := fun p hp t ht hno hne => ?_, f7a := fun t hno => ?_, f7b := fun p hp t ht => ?_, fds := ?_, run := hrun, sim0 := h.sim0, sim := hs, ext := hx, ok := h.ok }⟩
  · rw [c.at_] at ho'; cases ho'; exact c.edges e he hb
  · rcases List.mem_cons.1 hy with rfl | hy
    · exact ⟨o, c.at_, c.oper⟩
    · exact h.opers y hy
  · rcases List.mem_cons.1 hy with rfl | hy2 <;> rcases List.mem_cons.1 hz with rfl | hz2
    · rfl
    · exact absurd e.symm (c.fresh z hz2)
    · exact absurd e (c.fresh y hy2)
    · exact h.dix y hy2 z hz2 e
  · rcases List.mem_cons.1 hy with rfl | hy2 <;> rcases List.mem_cons.1 hz with rfl | hz2
    · exact absurd rfl e
    · exact c.dsts z hz2
    · have := c.dsts y hy2
      cases hyd : y.dst with
      | none => simp [sameDst, hyd]
      | some t => cases hzd : z.dst with
        | none => simp [sameDst, hyd, hzd]
        | some u => simp only [sameDst, hyd, hzd] at this ⊢; simp at this ⊢; exact fun he => this he.symm
    · exact h.dsts y hy2 z hz2 e
  · rcases List.mem_cons.1 hy with rfl | hy2 <;> rcases List.mem_cons.1 hz with rfl | hz2
    · exact absurd rfl e
    · exact .inr (c.conf z hz2 (.inl hc))
    · exact .inl (c.conf y hy2 (.inr hc))
    · exact h.conf y hy2 z hz2 e hc
  · rcases h.cover j hj with ⟨y, hy, e⟩ | ⟨y, hy, e⟩
    · exact .inl ⟨y, List.mem_cons_of_mem _ hy, e⟩
    · rcases List.mem_cons.1 hy with rfl | hy
      · exact .inl ⟨y, List.mem_cons_self, e⟩
      · exact .inr ⟨y, hy, e⟩
  · rcases List.mem_cons.1 hy with rfl | hy
    · exact .inr ⟨_, List.mem_cons_self, rfl⟩
    · rcases h.ldone y hy with h1 | ⟨p, hp, e⟩
      · exact .inl h1
      · exact .inr ⟨p, List.mem_cons_of_mem _ hp, e⟩
  · rcases List.mem_cons.1 hp with rfl | hp
    · exact h.lcl x List.mem_cons_self
    · exact h.lpend p hp
  · rcases List.mem_cons.1 hp with rfl | hp
    · exact List.mem_cons_self
    · exact List.mem_cons_of_mem _ (h.pdone p hp)
  · rcases List.mem_cons.1 hp with rfl | hp
    · exact hl
    · exact h.plate p hp
  · simp only [List.map_cons, List.nodup_cons]
    refine ⟨fun hm => ?_, h.pnodup⟩
    obtain ⟨p, hp, e⟩ := List.mem_map.1 hm
    exact hxd p hp e
  · rcases List.mem_cons.1 hp with rfl | hp <;> rcases List.mem_cons.1 hq with rfl | hq
    · exact absurd rfl e
    · exact hb q hq c' hc'
    · intro hbq; exact hb p hp c' hbq hc'
    · exact h.pb p hp q hq e c' hc'
  · rcases List.mem_cons.1 hp with rfl | hp
    · exact hv
    · exact hold p hp
  · rcases List.mem_cons.1 hp with rfl | hp
    · exact Inv.ne_self c.self ht
    · exact h.noself p hp t ht
  · rcases List.mem_cons.1 hp with rfl | hp <;> rcases List.mem_cons.1 hq with rfl | hq
    · exact absurd ht1 (Inv.ne_self c.self ht2)
    · exact h.f7b q hq t ht1
    · exact absurd ha (hnoanc p hp)
    · exact h.p6a p hp q hq ha t ht1 ht2
  · rcases List.mem_cons.1 hp with rfl | hp
    · refine h.f7a t (fun q hq hqt => ?_)
      have hanc := c.conf q.x (h.pdone q hq) (.inr (dstIn_of hqt ht))
      exact hno q (List.mem_cons_of_mem _ hq) hanc hqt
    · exact h.p6b p hp t ht (fun q hq => hno q (List.mem_cons_of_mem _ hq))
  · rw [frput_get]
    rcases List.mem_cons.1 hp with rfl | hp
    · rw [if_neg hne]
    · have e : (x :: done).takeWhile (fun z => z.ix != p.x.ix) = x :: done.takeWhile (fun z => z.ix != p.x.ix) := by
        rw [List.takeWhile_cons, if_pos (by simp; exact fun e => hxd p hp e.symm)]
      rw [e] at hno
      rw [if_neg (hno x List.mem_cons_self)]
      exact h.p9 p hp t ht (fun z hz => hno z (List.mem_cons_of_mem _ hz)) hne
  · rw [frput_get, if_neg (hno _ List.mem_cons_self)]
    exact h.f7a t (fun p hp => hno p (List.mem_cons_of_mem _ hp))
  · rw [frput_get]
    rcases List.mem_cons.1 hp with rfl | hp
    · rw [if_pos ht]
    · rw [if_neg (fun e => hpd p hp t e ht)]; exact h.f7b p hp t ht
  · rw [h.fds]; cases x.dst <;> rfl

/-- What the next operation is, where it may be carried out later. -/
theorem Inv.advance {x : AOper} {r : List AOper} (h : Inv L P nd nt ops ι0 H0 w0 X K tab done last (x :: r) pend fs fr H ι listed a w) (hl : late x.op = true ∨ Skips fr x) :
    ∃ tab' last' p fr' H', Inv L P nd nt ops ι0 H0 w0 X K tab' (x :: done) last' r (p :: pend) fs fr' H' ι listed a w := by
  have hrun := h.run
  have body : Wants fr x → late x.op = true → evOp (SC L P nd) fr H x (fun fr' H' => (x.re = [] ∨ rechecks fr' H' x.re done) ∧ evD (SC L P nd) X K (x :: done) r fr' H') (X fr) →
      ∃ tab' last' p fr' H', Inv L P nd nt ops ι0 H0 w0 X K tab' (x :: done) last' r (p :: pend) fs fr' H' ι listed a w := by
    intro hw hlt he
    have hst : ∃ v H', step fr H x.op = some (v, H') ∧ evD (SC L P nd) X K (x :: done) r (fr.put x.dst v) H' := by
      unfold evOp at he
      cases hop : x.op <;> rw [hop] at hlt he <;> simp only [late, pureOp, isLoad, isFresh, Bool.or_false, Bool.or_self, Bool.false_eq_true] at hlt <;> simp only at he
      all_goals
        split at he
        · rename_i v H' hs; exact ⟨v, H', hs, he.2⟩
        · exact he.elim
    obtain ⟨v, H', hs, hk⟩ := hst
    by_cases hfr : isFresh x.op = true
    · have hfs : ∃ cs mk, fresh fr x.op = some (cs, mk) ∧ v = mk H.next ∧ H' = H.new (.cells cs true) := by
        cases hop : x.op <;> rw [hop] at hfr hs <;> simp only [isFresh] at hfr <;> (try cases hfr)
        all_goals
          simp only [step] at hs
          split at hs
          · rename_i cs mk hf2; cases hs; exact ⟨cs, mk, hf2, rfl, rfl⟩
          · cases hs
      obtain ⟨cs, mk, e1, rfl, rfl⟩ := hfs
      obtain ⟨s2, x2⟩ := h.sim.ghost (.cells cs true)
      have hbs : ∀ p ∈ pend, ∀ c, p.b = some c → c < H.next := by
        intro p hp c hc
        rcases h.pval p hp with ⟨_, _, h3⟩ | ⟨_, ⟨_, h3, _⟩ | ⟨_, cs', mk', b', h3, _, _, _, h4, _⟩⟩
        · rw [h3] at hc; cases hc
        · rw [h3] at hc; cases hc
        · rw [h3] at hc; cases hc; exact h4
      obtain ⟨t', l', hi⟩ := h.push (v := mk H.next) (b := some H.next) (.inl hlt) (.inr ⟨hw, .inr ⟨hfr, cs, mk, H.next, rfl, e1, rfl, h.sim.nx _ (Nat.le_refl _), Nat.lt_succ_self _, h.ext.hn, new_get _⟩⟩)
        (fun p hp => (h.pval p hp).new h.sim _ (h.plate p hp)) (fun p hp c hc hpc => by cases hc; exact absurd (hbs p hp _ hpc) (Nat.lt_irrefl _)) s2 (h.ext.trans h.sim0 h.sim x2) hk
      exact ⟨t', l', _, _, _, hi⟩
    · have hH : H' = H := by
        by_cases hp : pureOp x.op = true
        · exact (pure_step (H' := H) hp hs).1
        · have hld : isLoad x.op = true := by
            simp only [late, Bool.or_eq_true] at hlt
            rcases hlt with (hlt | hlt) | hlt
            · exact absurd hlt hp
            · exact hlt
            · exact absurd hlt hfr
          cases hop : x.op <;> rw [hop] at hld hs <;> simp only [isLoad] at hld <;> (try cases hld)
          exact (load_step.1 hs).choose_spec.choose_spec.2.2
      subst hH
      obtain ⟨t', l', hi⟩ := h.push (v := v) (b := none) (.inl hlt) (.inr ⟨hw, .inl ⟨by simpa using hfr, rfl, hs⟩⟩) h.pval (fun p hp c hc => by cases hc) h.sim h.ext hk
      exact ⟨t', l', _, _, _, hi⟩
  have skip : Skips fr x → evD (SC L P nd) X K (x :: done) r (fr.put x.dst (.tup [])) H → ∃ tab' last' p fr' H', Inv L P nd nt ops ι0 H0 w0 X K tab' (x :: done) last' r (p :: pend) fs fr' H' ι listed a w := by
    intro hsk hk
    obtain ⟨t', l', hi⟩ := h.push (v := .tup []) (b := none) (.inr hsk) (.inl ⟨hsk, rfl, rfl⟩) h.pval (fun p hp c hc => by cases hc) h.sim h.ext hk
    exact ⟨t', l', _, _, _, hi⟩
  unfold evD at hrun
  cases hg : x.g with
  | none =>
    rw [hg] at hrun
    have hnsk : ¬ Skips fr x := fun ⟨t, want, e, _⟩ => by rw [hg] at e; cases e
    exact body (.inl hg) (hl.resolve_right hnsk) hrun
  | some g =>
    obtain ⟨t, want⟩ := g
    rw [hg] at hrun
    dsimp only at hrun
    split at hrun
    · rename_i b hb
      unfold gif at hrun
      split at hrun
      · rename_i hbw
        have : b = want := by simpa using hbw
        subst this
        have hnsk : ¬ Skips fr x := fun ⟨t', want', e, e2⟩ => by
          rw [hg] at e; cases e; rw [hb] at e2; rcases e2 with e2 | e2 <;> cases b <;> cases e2
        exact body (.inr ⟨t, b, hg, hb⟩) (hl.resolve_right hnsk) hrun
      · rename_i hbw
        have : b = !want := by cases b <;> cases want <;> simp_all
        subst this
        exact skip ⟨t, want, hg, .inl hb⟩ hrun
    · rename_i hb
      exact skip ⟨t, want, hg, .inr hb⟩ hrun
    · exact hrun.elim

end
end Go.Ab
namespace Go.Ab
variable {L : Lk} {P : Program}
section
variable {nd : Nat → Bool} {nt : Nat} {ops : Array Oper} {ι0 : Im} {H0 : Heap} {w0 : World} {X : Fr → V → Heap → Prop} {K : Fr → Heap → Prop}
variable {tab : List (Nat × Msk)} {done : List AOper} {last : Option Nat} {cl : List AOper} {pend : List Pe} {fs fr : Fr} {H : Heap} {ι : Im} {listed : Array Bool} {a : Act} {w : World}
/-- Behind a pending operation that the model has carried out now. -/
theorem Inv.took {l1 l2 : List Pe} {p : Pe} {x' : Value} {ι' : Im} {w' : World} (h : Inv L P nd nt ops ι0 H0 w0 X K tab done last cl (l1 ++ p :: l2) fs fr H ι listed a w) (hr : p.x.ix ∈ Region.ready .any ops listed)
    (hs : Sim L ι' H w') (hx : Ext ι0 H0 w0 ι' H w') (hle : ILe ι ι') (hv : Rel L ι' p.v x') (hι : ∀ b, p.b ≠ some b → ι b = none → ι' b = none) :
    Inv L P nd nt ops ι0 H0 w0 X K tab done last cl (l1 ++ l2) (fs.put p.x.dst p.v) fr H ι' (listed.setIfInBounds p.x.ix true) (a.put p.x.dst x') w' := by
  have hpm : p ∈ l1 ++ p :: l2 := by simp
  have sub : ∀ q ∈ l1 ++ l2, q ∈ l1 ++ p :: l2 := fun q hq => by
    rcases List.mem_append.1 hq with hq | hq
    · exact List.mem_append_left _ hq
    · exact List.mem_append_right _ (List.mem_cons_of_mem _ hq)
  have hnd := h.pnodup
  simp only [List.map_append, List.map_cons] at hnd
  have hne : ∀ q ∈ l1 ++ l2, q.x.ix ≠ p.x.ix := fun q hq e => by
    rw [List.nodup_append] at hnd
    obtain ⟨n1, n2, n3⟩ := hnd
    rcases List.mem_append.1 hq with hq | hq
    · exact n3 q.x.ix (List.mem_map_of_mem hq) p.x.ix List.mem_cons_self e
    · exact (List.nodup_cons.1 n2).1 (by rw [← e]; exact List.mem_map_of_mem hq)
  have split : ∀ q ∈ l1 ++ p :: l2, q = p ∨ q ∈ l1 ++ l2 := fun q hq => by
    rcases List.mem_append.1 hq with hq | hq
    · exact .inr (List.mem_append_left _ hq)
    · rcases List.mem_cons.1 hq with rfl | hq
      · exact .inl rfl
      · exact .inr (List.mem_append_right _ hq)
  obtain ⟨o, ho, hck⟩ := h.opers _ (h.pdone p hpm)
  have hlt : p.x.ix < ops.size := (Array.getElem?_eq_some_iff.1 ho).1
  obtain ⟨_, hdlt, _, _⟩ := ckOper_spec hck
  have hself : ∀ q ∈ l1 ++ l2, ∀ t, p.x.dst = some t → q.x.dst ≠ some t := fun q hq t ht =>
    sameDst_spec (h.dsts _ (h.pdone p hpm) _ (h.pdone q (sub q hq)) (fun e => hne q hq e.symm)) t ht
  refine {
    ck := h.ck, tab_ := h.tab_, topo := h.topo, opers := h.opers, dix := h.dix, dsts := h.dsts, conf := h.conf, cover := h.cover, clix := h.clix, lsize := by simp [h.lsize], closed := h.closed.set hr,
    ldone := fun y hy => ?_, lpend := fun q hq => ?_, lcl := fun y hy => ?_, pdone := fun q hq => h.pdone q (sub q hq), plate := fun q hq => h.plate q (sub q hq), pnodup := ?_, pb := fun q hq r hr => h.pb q (sub q hq) r (sub r hr),
    pval := fun q hq => ?_, noself := fun q hq => h.noself q (sub q hq), p6a := fun q hq r hr => h.p6a q (sub q hq) r (sub r hr), p6b := fun q hq t ht hno => ?_, p9 := fun q hq => h.p9 q (sub q hq), f7a := fun t hno => ?_, f7b := fun q hq => h.f7b q (sub q hq),
    fds := ?_, run := h.run, sim0 := h.sim0, sim := hs, ext := hx, ok := (h.ok.mono hle).put hdlt hv }
  · rcases h.ldone y hy with h1 | ⟨q, hq, e⟩
    · exact .inl (getD_set_true h1)
    · rcases split q hq with rfl | hq
      · subst e; left; simp [h.lsize, hlt]
      · exact .inr ⟨q, hq, e⟩
  · rw [getD_set_ne false (fun e => hne q hq e.symm)]; exact h.lpend q (sub q hq)
  · have : p.x.ix ≠ y.ix := ckD_fresh cl h.tab_ h.ck y hy p.x (h.pdone p hpm)
    rw [getD_set_ne false this]; exact h.lcl y hy
  · rw [List.map_append]
    rw [List.nodup_append] at hnd ⊢
    obtain ⟨n1, n2, n3⟩ := hnd
    exact ⟨n1, (List.nodup_cons.1 n2).2, fun x hx y hy => n3 x hx y (List.mem_cons_of_mem _ hy)⟩
  · rcases h.pval q (sub q hq) with h1 | ⟨hw, h1 | ⟨f, cs, mk, b, e1, e2, e3, e4, e5, e6, e7⟩⟩
    · exact .inl h1
    · exact .inr ⟨hw, .inl h1⟩
    · exact .inr ⟨hw, .inr ⟨f, cs, mk, b, e1, e2, e3, hι b (fun e => h.pb q (sub q hq) p hpm (hne q hq) b e1 e) e4, e5, e6, e7⟩⟩
  · rw [frput_get]
    by_cases ht2 : p.x.dst = some t
    · rw [if_pos ht2]
      rcases h.conf p.x (h.pdone p hpm) q.x (h.pdone q (sub q hq)) (fun e => hne q hq e.symm) (dstIn_of ht2 ht) with ha | ha
      · exact (h.p6a q (sub q hq) p hpm ha t ht2 ht).symm
      · have := ha.ready h.closed hr
        rw [h.lpend q (sub q hq)] at this; cases this
    · rw [if_neg ht2]
      refine h.p6b q (sub q hq) t ht (fun r hr ha => ?_)
      rcases split r hr with rfl | hr
      · exact ht2
      · exact hno r hr ha
  · rw [frput_get]
    by_cases ht2 : p.x.dst = some t
    · rw [if_pos ht2]; exact (h.f7b p hpm t ht2).symm
    · rw [if_neg ht2]
      refine h.f7a t (fun r hr => ?_)
      rcases split r hr with rfl | hr
      · exact ht2
      · exact hno r hr
  · rw [← h.fds]; cases p.x.dst <;> rfl

theorem fr_agree {p : Pe} (h : Inv L P nd nt ops ι0 H0 w0 X K tab done last cl pend fs fr H ι listed a w) (hp : p ∈ pend) (hr : p.x.ix ∈ Region.ready .any ops listed) : ∀ t ∈ p.x.names, fs.get t = p.fi.get t := by
  intro t ht
  refine h.p6b p hp t ht (fun q hq ha _ => ?_)
  have := ha.ready h.closed hr
  rw [h.lpend q hq] at this; cases this

/-- The model carries out a pending operation. -/
theorem Inv.exec {p : Pe} {Q' : Exit → Act → World → Prop} {K' : Act → World → Prop} (h : Inv L P nd nt ops ι0 H0 w0 X K tab done last cl pend fs fr H ι listed a w) (hp : p ∈ pend) (hr : p.x.ix ∈ Region.ready .any ops listed)
    (hK : ∀ l1 l2 fs' ι' a' w', pend = l1 ++ p :: l2 → Inv L P nd nt ops ι0 H0 w0 X K tab done last cl (l1 ++ l2) fs' fr H ι' (listed.setIfInBounds p.x.ix true) a' w' → K' a' w') : wpOp P ops Q' p.x.ix K' a w := by
  obtain ⟨l1, l2, hsp⟩ := List.append_of_mem hp
  subst hsp
  have hag := fr_agree h hp hr
  obtain ⟨o, ho, hck⟩ := h.opers _ (h.pdone p hp)
  obtain ⟨hd, hdlt, hg, hop⟩ := ckOper_spec hck
  unfold wpOp
  rw [ho]
  dsimp only
  have hreads : Agree fs p.fi p.x.op.reads := fun t ht => hag t (List.mem_append_left _ ht)
  -- the guard, as the model sees it
  have hguard : ∀ t want b, p.x.g = some (t, want) → p.fi.get t = some (.bool b) → Region.wanted o (yielded ops a.tmps) = (b == want) := by
    intro t want b e1 e2
    have ht : t ∈ p.x.names := by unfold AOper.names; rw [e1]; exact List.mem_append_right _ (by simp)
    rw [← hag t ht] at e2
    obtain ⟨v', k1, k2⟩ := h.ok.tm t _ e2
    cases k2
    rw [e1] at hg
    cases hog : o.guard with
    | none => rw [hog] at hg; simp [ckGuard] at hg
    | some g' =>
      obtain ⟨j, want'⟩ := g'
      rw [hog] at hg
      simp only [ckGuard, Bool.and_eq_true, beq_iff_eq] at hg
      obtain ⟨rfl, hj⟩ := hg
      exact wanted_some hog hj k1
  have hoff : ∀ t want, p.x.g = some (t, want) → p.fi.get t = some (.tup []) → Region.wanted o (yielded ops a.tmps) = false := by
    intro t want e1 e2
    have ht : t ∈ p.x.names := by unfold AOper.names; rw [e1]; exact List.mem_append_right _ (by simp)
    rw [← hag t ht] at e2
    obtain ⟨v', k1, vs, k2, k3⟩ := h.ok.tm t _ e2
    rw [e1] at hg
    cases hog : o.guard with
    | none => rw [hog] at hg; simp [ckGuard] at hg
    | some g' =>
      obtain ⟨j, want'⟩ := g'
      rw [hog] at hg
      simp only [ckGuard, Bool.and_eq_true, beq_iff_eq] at hg
      obtain ⟨rfl, hj⟩ := hg
      exact wanted_off hog hj (by rw [k1, k2]) (fun b e => by cases e)
  rcases h.pval p hp with ⟨⟨t, want, e1, e2⟩, hv, hb⟩ | ⟨hw, hval⟩
  · have : Region.wanted o (yielded ops a.tmps) = false := by
      rcases e2 with e2 | e2
      · rw [hguard t want _ e1 e2]; cases want <;> rfl
      · exact hoff t want e1 e2
    rw [if_neg (by simp [this])]
    have := h.took (x' := undef) hr h.sim h.ext (ILe.refl _) (by rw [hv]; exact ⟨#[], rfl, rfl⟩) (fun b _ e => e)
    rw [← hd]
    exact hK l1 l2 _ _ _ _ rfl this
  · have hwant : Region.wanted o (yielded ops a.tmps) = true := by
      rcases hw with hw | ⟨t, want, e1, e2⟩
      · rw [hw] at hg
        cases hog : o.guard with
        | none => exact wanted_none hog _
        | some g' => rw [hog] at hg; simp [ckGuard] at hg
      · rw [hguard t want _ e1 e2]; simp
    rw [if_pos hwant]
    left
    have hlate : late p.x.op = true := by
      rcases h.plate p hp with hl | ⟨t, want, e1, e2⟩
      · exact hl
      · exfalso
        rcases hw with hw | ⟨t', want', e3, e4⟩
        · rw [hw] at e1; cases e1
        · rw [e1] at e3; cases e3; rw [e4] at e2; rcases e2 with e2 | e2 <;> cases want <;> cases e2
    have hckS : ckS L P p.x.op o.op = true := by
      revert hop hlate; cases p.x.op <;> intro hop hlate <;> first | (cases hlate; done) | exact hop
    rcases hval with ⟨hnf, hb, hst⟩ | ⟨hf, cs, mk, b, hb, hfr, hv, hιb, hbn, hb0, hgb⟩
    · have hst' : step fs H p.x.op = some (p.v, H) := by rw [step_agree hreads]; exact hst
      have hckQ : ckQ L P p.x.op o.op = true := by
        simp only [ckS, Bool.or_eq_true] at hckS
        rcases hckS with (hc | hc) | hc
        · exact hc
        · exfalso; revert hc hnf; cases p.x.op <;> simp [ckF, isFresh]
        · exfalso; revert hc hlate; cases p.x.op <;> simp [ckW, late, pureOp, isLoad, isFresh]
      obtain ⟨_, v', hy, hrel⟩ := quiet_sound (P := P) h.ok.tm h.sim p.x.op o p.v H hckQ hst'
      have := h.took (x' := v') hr h.sim h.ext (ILe.refl _) hrel (fun b _ e => e)
      unfold Oper.wp
      rw [show (execOp a.eval o).run P w = .ok (.value v') w from hy]
      show K' (a.put o.dst v') w
      rw [← hd]
      exact hK l1 l2 _ _ _ _ rfl this
    · have hfr' : fresh fs p.x.op = some (cs, mk) := by rw [fresh_agree hreads]; exact hfr
      have hckF : ckF L P p.x.op o.op = true := by
        simp only [ckS, Bool.or_eq_true] at hckS
        rcases hckS with (hc | hc) | hc
        · exfalso; revert hc hf; cases p.x.op <;> simp [ckQ, isFresh]
        · exact hc
        · exfalso; revert hc hlate; cases p.x.op <;> simp [ckW, late, pureOp, isLoad, isFresh]
      obtain ⟨arr, ty, v', r1, r2, r3⟩ := (fresh_sound (ι := ι) (w := w) h.ok.tm hckF hfr').ex
      obtain ⟨s2, x2⟩ := Sim.lay ty h.sim0 h.sim h.ext hb0 hιb hbn hgb (by rw [r2.length, Array.length_toList]; exact Nat.le_refl _) (fun i v hv => by
        obtain ⟨v', q1, q2⟩ := r2.get hv
        exact ⟨v', by rw [Array.getElem?_toList] at q1; exact q1, q2⟩)
      have hrel : Rel L (upd ι b w.heap.size 0 arr.size) p.v v' := by rw [hv]; exact r3 _ _ (by unfold Ab.upd; exact if_pos rfl)
      have := h.took (x' := v') hr s2 x2 (ILe.upd hιb) hrel (fun b' hb' e => by
        unfold Ab.upd; rw [if_neg (fun e2 => hb' (by rw [hb, e2]))]; exact e)
      unfold Oper.wp
      rw [r1]
      show K' (a.put o.dst v') (pushW w arr ty)
      rw [← hd]
      exact hK l1 l2 _ _ _ _ rfl this

end
end Go.Ab
namespace Go.Ab
variable {L : Lk} {P : Program}
theorem getD_replicate (m j : Nat) : (Array.replicate m false).getD j false = false := by
  rcases Nat.lt_or_ge j m with h | h <;> simp [h]

theorem rechecks_spec {fr : Fr} {H : Heap} {re : List Nat} : ∀ {acc : List AOper}, rechecks fr H re acc → ∀ y ∈ acc, re.contains y.ix = true →
    (∃ t want, y.g = some (t, want) ∧ (fr.get t = some (.bool !want) ∨ fr.get t = some (.tup []))) ∨ recheck fr H y
  | [], _, y, hy, _ => by simp at hy
  | z :: acc, h, y, hy, hc => by
    rcases List.mem_cons.1 hy with rfl | hy
    · have := h.1
      rw [if_pos hc] at this
      rcases this with h1 | h1
      · cases hg : y.g with
        | none => rw [hg] at h1; exact h1.elim
        | some g => obtain ⟨t, want⟩ := g; rw [hg] at h1; exact .inl ⟨t, want, rfl, h1⟩
      · exact .inr h1
    · exact rechecks_spec h.2 y hy hc

section
variable {nd : Nat → Bool} {nt : Nat} {ops : Array Oper} {ι0 : Im} {H0 : Heap} {w0 : World} {X : Fr → V → Heap → Prop} {K : Fr → Heap → Prop}
variable {tab : List (Nat × Msk)} {done : List AOper} {last : Option Nat} {cl : List AOper} {pend : List Pe} {fs fr : Fr} {H : Heap} {ι : Im} {listed : Array Bool} {a : Act} {w : World}
theorem not_anc {p : Pe} {k : AOper} {r : List AOper} (h : Inv L P nd nt ops ι0 H0 w0 X K tab done last (k :: r) pend fs fr H ι listed a w) (hp : p ∈ pend) (hr : k.ix ∈ Region.ready .any ops listed) : ¬ Anc ops p.x.ix k.ix := fun ha => by
  have := ha.ready h.closed hr
  rw [h.lpend p hp] at this; cases this

/-- Behind a writing operation. -/
theorem Inv.wrote {k : AOper} {r : List AOper} {o : Oper} {v : V} {fs' fr' : Fr} {H' : Heap} {ι' : Im} {a' : Act} {w' : World} (h : Inv L P nd nt ops ι0 H0 w0 X K tab done last (k :: r) pend fs fr H ι listed a w)
    (c : CkStep L P nt ops tab done last k r o) (hl : late k.op = false) (hr : k.ix ∈ Region.ready .any ops listed)
    (hs : Sim L ι' H' w') (hx : Ext ι H w ι' H' w') (hok : FrOk L nt ι' fs' a') (htm : fs'.tm = (fs.put k.dst v).tm) (htr : fr'.tm = (fr.put k.dst v).tm) (hds : fs'.ds = fr'.ds)
    (hre : k.re = [] ∨ rechecks fr' H' k.re done) (hrun : evD (SC L P nd) X K (k :: done) r fr' H') :
    ∃ tab' last', Inv L P nd nt ops ι0 H0 w0 X K tab' (k :: done) last' r pend fs' fr' H' ι' (listed.setIfInBounds k.ix true) a' w' := by
  have gs : ∀ t, fs'.get t = if k.dst = some t then some v else fs.get t := fun t => by rw [← frput_get]; show look fs'.tm t = _; rw [htm]; rfl
  have gr : ∀ t, fr'.get t = if k.dst = some t then some v else fr.get t := fun t => by rw [← frput_get]; show look fr'.tm t = _; rw [htr]; rfl
  have hxd : ∀ p ∈ pend, p.x.ix ≠ k.ix := fun p hp => c.fresh _ (h.pdone p hp)
  have hpd : ∀ p ∈ pend, ∀ t, k.dst = some t → p.x.dst ≠ some t := fun p hp t ht => sameDst_spec (c.dsts _ (h.pdone p hp)) t ht
  have hpn : ∀ p ∈ pend, ∀ t ∈ p.x.names, k.dst ≠ some t := fun p hp t ht e =>
    not_anc h hp hr (c.conf p.x (h.pdone p hp) (.inl (dstIn_of e ht)))
  have hklt : k.ix < ops.size := (Array.getElem?_eq_some_iff.1 c.at_).1
  refine ⟨_, _, {
    ck := c.rest, tab_ := c.tab_, topo := ⟨fun o' ho' e he hb => ?_, h.topo⟩, opers := fun y hy => ?_, dix := fun y hy z hz e => ?_, dsts := fun y hy z hz e => ?_, conf := fun y hy z hz e hc => ?_,
    cover := fun j hj => ?_, clix := fun y hy => h.clix y (List.mem_cons_of_mem _ hy), lsize := by simp [h.lsize], closed := h.closed.set hr, ldone := fun y hy => ?_, lpend := fun p hp => ?_,
    lcl := fun y hy => ?_, pdone := fun p hp => List.mem_cons_of_mem _ (h.pdone p hp), plate := h.plate, pnodup := h.pnodup, pb := h.pb, pval := fun p hp => ?_, noself := h.noself, p6a := h.p6a, p6b := fun p hp t ht hno => ?_,
    p9 := fun p hp t ht hno hne => ?_, f7a := fun t hno => ?_, f7b := fun p hp t ht => ?_, fds := hds, run := hrun, sim0 := h.sim0, sim := hs, ext := h.ext.trans h.sim0 h.sim hx, ok := hok }⟩
  · rw [c.at_] at ho'; cases ho'; exact c.edges e he hb
  · rcases List.mem_cons.1 hy with rfl | hy
    · exact ⟨o, c.at_, c.oper⟩
    · exact h.opers y hy
  · rcases List.mem_cons.1 hy with rfl | hy2 <;> rcases List.mem_cons.1 hz with rfl | hz2
    · rfl
    · exact absurd e.symm (c.fresh z hz2)
    · exact absurd e (c.fresh y hy2)
    · exact h.dix y hy2 z hz2 e
  · rcases List.mem_cons.1 hy with rfl | hy2 <;> rcases List.mem_cons.1 hz with rfl | hz2
    · exact absurd rfl e
    · exact c.dsts z hz2
    · have := c.dsts y hy2
      cases hyd : y.dst with
      | none => simp [sameDst, hyd]
      | some t => cases hzd : z.dst with
        | none => simp [sameDst, hyd, hzd]
        | some u => simp only [sameDst, hyd, hzd] at this ⊢; simp at this ⊢; exact fun he => this he.symm
    · exact h.dsts y hy2 z hz2 e
  · rcases List.mem_cons.1 hy with rfl | hy2 <;> rcases List.mem_cons.1 hz with rfl | hz2
    · exact absurd rfl e
    · exact .inr (c.conf z hz2 (.inl hc))
    · exact .inl (c.conf y hy2 (.inr hc))
    · exact h.conf y hy2 z hz2 e hc
  · rcases h.cover j hj with ⟨y, hy, e⟩ | ⟨y, hy, e⟩
    · exact .inl ⟨y, List.mem_cons_of_mem _ hy, e⟩
    · rcases List.mem_cons.1 hy with rfl | hy
      · exact .inl ⟨y, List.mem_cons_self, e⟩
      · exact .inr ⟨y, hy, e⟩
  · rcases List.mem_cons.1 hy with rfl | hy
    · left; simp [h.lsize, hklt]
    · rcases h.ldone y hy with h1 | h1
      · exact .inl (getD_set_true h1)
      · exact .inr h1
  · rw [getD_set_ne false (fun e => hxd p hp e.symm)]; exact h.lpend p hp
  · have : k.ix ≠ y.ix := by
      have := ckD_fresh r c.tab_ c.rest y hy k List.mem_cons_self
      exact this
    rw [getD_set_ne false this]; exact h.lcl y (List.mem_cons_of_mem _ hy)
  · -- what is known of a pending one
    rcases h.pval p hp with h1 | ⟨hw, h1⟩
    · exact .inl h1
    · have hlp : late p.x.op = true := by
        rcases h.plate p hp with hl | ⟨t, want, e1, e2⟩
        · exact hl
        · exfalso
          rcases hw with hw | ⟨t', want', e3, e4⟩
          · rw [hw] at e1; cases e1
          · rw [e1] at e3; cases e3; rw [e4] at e2; rcases e2 with e2 | e2 <;> cases want <;> cases e2
      refine .inr ⟨hw, ?_⟩
      have key : (isLoad p.x.op = true ∨ isFresh p.x.op = true) → recheck fr' H' p.x ∧ Agree fr' p.fi p.x.op.reads ∧ ∃ t, p.x.dst = some t ∧ fr'.get t = some p.v := by
        intro hcl
        obtain ⟨q1, q2, q3⟩ := c.re hl p.x (h.pdone p hp) hcl (not_anc h hp hr)
        have hag : ∀ t ∈ p.x.names, p.x.dst ≠ some t → fr'.get t = p.fi.get t := fun t ht hne => by
          rw [gr, if_neg (hpn p hp t ht)]
          exact h.p9 p hp t ht (fun z hz e => dstIn_spec (q3 z hz) t e ht) hne
        have hrc : (∃ t want, p.x.g = some (t, want) ∧ (fr'.get t = some (.bool !want) ∨ fr'.get t = some (.tup []))) ∨ recheck fr' H' p.x := by
          rcases hre with hre | hre
          · rw [hre] at q1; simp at q1
          · exact rechecks_spec hre p.x (h.pdone p hp) q1
        obtain ⟨t0, hd0⟩ : ∃ t, p.x.dst = some t := by
          rcases hrc with ⟨t, want, e1, e2⟩ | hrc
          · cases hdd : p.x.dst with
            | some t => exact ⟨t, rfl⟩
            | none =>
              exfalso
              have ht : t ∈ p.x.names := by unfold AOper.names; rw [e1]; exact List.mem_append_right _ (by simp)
              rw [hag t ht (by rw [hdd]; simp)] at e2
              rcases hw with hw | ⟨t', want', e3, e4⟩
              · rw [hw] at e1; cases e1
              · rw [e1] at e3; cases e3; rw [e4] at e2; rcases e2 with e2 | e2 <;> cases want <;> cases e2
          · unfold recheck at hrc
            cases hdd : p.x.dst with
            | some t => exact ⟨t, rfl⟩
            | none => rw [hdd] at hrc; exact hrc.elim
        have hself : ∀ t ∈ p.x.names, p.x.dst ≠ some t := h.noself p hp
        refine ⟨?_, fun t ht => hag t (List.mem_append_left _ ht) (hself t (List.mem_append_left _ ht)), t0, hd0, ?_⟩
        · rcases hrc with ⟨t, want, e1, e2⟩ | hrc
          · exfalso
            have ht : t ∈ p.x.names := by unfold AOper.names; rw [e1]; exact List.mem_append_right _ (by simp)
            rw [hag t ht (hself t ht)] at e2
            rcases hw with hw | ⟨t', want', e3, e4⟩
            · rw [hw] at e1; cases e1
            · rw [e1] at e3; cases e3; rw [e4] at e2; rcases e2 with e2 | e2 <;> cases want <;> cases e2
          · exact hrc
        · rw [gr, if_neg (fun e => hpd p hp t0 e hd0)]; exact h.f7b p hp t0 hd0
      rcases h1 with ⟨f, hb, hst⟩ | ⟨f, cs, mk, b, e1, e2, e3, e4, e5, e6, e7⟩
      · refine .inl ⟨f, hb, ?_⟩
        by_cases hp2 : pureOp p.x.op = true
        · exact (pure_step hp2 hst).2
        · have hld : isLoad p.x.op = true := by
            simp only [late, Bool.or_eq_true, f, Bool.false_eq_true, or_false] at hlp
            exact hlp.resolve_left hp2
          obtain ⟨k1, k2, t, k3, k4⟩ := key (.inl hld)
          unfold recheck at k1
          rw [k3] at k1
          dsimp only at k1
          have hnf : fresh fr' p.x.op = none := by cases hop : p.x.op <;> rw [hop] at hld <;> simp [isLoad] at hld <;> rfl
          rw [hnf] at k1
          obtain ⟨u, m1, m2⟩ := k1
          rw [k4] at m1; cases m1
          rw [step_agree k2] at m2; exact m2
      · obtain ⟨k1, k2, t, k3, k4⟩ := key (.inr f)
        unfold recheck at k1
        rw [k3] at k1
        dsimp only at k1
        rw [fresh_agree k2, e2] at k1
        obtain ⟨b', m1, m2⟩ := k1
        rw [k4, e3] at m1
        have hbb : b = b' := fresh_inj e2 (Option.some.inj m1)
        subst hbb
        exact .inr ⟨f, cs, mk, b, e1, e2, e3, hx.dom b e5 e4, Nat.lt_of_lt_of_le e5 hx.hn, e6, m2⟩
  · rw [gs, if_neg (hpn p hp t ht)]; exact h.p6b p hp t ht hno
  · have e : (k :: done).takeWhile (fun z => z.ix != p.x.ix) = k :: done.takeWhile (fun z => z.ix != p.x.ix) := by
      rw [List.takeWhile_cons, if_pos (by simp; exact fun e => hxd p hp e.symm)]
    rw [e] at hno
    rw [gr, if_neg (hno k List.mem_cons_self)]
    exact h.p9 p hp t ht (fun z hz => hno z (List.mem_cons_of_mem _ hz)) hne
  · rw [gs, gr]; split
    · rfl
    · exact h.f7a t hno
  · rw [gr, if_neg (fun e => hpd p hp t e ht)]; exact h.f7b p hp t ht


theorem wants_or_skips {k : AOper} {acc r : List AOper} (h : evD (SC L P nd) X K acc (k :: r) fr H) (hs : ¬ Skips fr k) :
    Wants fr k ∧ evOp (SC L P nd) fr H k (fun fr' H' => (k.re = [] ∨ rechecks fr' H' k.re acc) ∧ evD (SC L P nd) X K (k :: acc) r fr' H') (X fr) := by
  unfold evD at h
  cases hg : k.g with
  | none => rw [hg] at h; exact ⟨.inl hg, h⟩
  | some g =>
    obtain ⟨t, want⟩ := g
    rw [hg] at h
    dsimp only at h
    split at h
    · rename_i b hb
      unfold gif at h
      split at h
      · rename_i hbw
        have : b = want := by simpa using hbw
        subst this
        exact ⟨.inr ⟨t, b, hg, hb⟩, h⟩
      · rename_i hbw
        have : b = !want := by cases b <;> cases want <;> simp_all
        subst this
        exact absurd ⟨t, want, hg, .inl hb⟩ hs
    · rename_i hb
      exact absurd ⟨t, want, hg, .inr hb⟩ hs
    · exact h.elim

/-- An operation on a map, of a frame that agrees on what it reads. -/
theorem evM_agree {q : MOp} {d : Option Nat} {K K' : Fr → Heap → Prop} (hag : Agree fs fr (AOp.mp q).reads) (hK : ∀ v H', K (fr.put d v) H' → K' (fs.put d v) H') (h : evM fr H d q K) : evM fs H d q K' := by
  cases q <;> simp only [AOp.reads] at hag <;> simp only [evM] at h ⊢
  case mk => exact hK _ _ h
  case look z ok m k =>
    rw [opd_agree (x := m) hag.left, opd_agree (x := k) hag.right]
    split at h
    · split at h
      · split at h
        · exact hK _ _ h
        · exact hK _ _ h
      · split at h
        · exact hK _ _ h
        · exact hK _ _ h
      · exact h
    · exact h
  case upd m k v =>
    rw [opd_agree (x := m) hag.left.left, opd_agree (x := k) hag.left.right, opd_agree (x := v) hag.right]
    split at h
    · split at h
      · exact hK _ _ h
      · exact hK _ _ h
      · exact h
    · exact h
  case range m =>
    rw [opd_agree (x := m) hag]
    split at h
    · split at h
      · exact hK _ _ h
      · exact h
    · exact h
  case next it =>
    rw [opd_agree (x := it) hag]
    split at h
    · split at h
      · split at h
        · exact ⟨h.1, fun hi => hK _ _ (h.2.1 hi), fun i e he hn => hK _ _ (h.2.2 i e he hn)⟩
        · exact h
      · exact h
    · exact h
  case entry it =>
    rw [opd_agree (x := it) hag]
    split at h
    · split at h
      · split at h
        · split at h
          · exact ⟨h.1, hK _ _ h.2⟩
          · exact h
        · exact h
      · exact h
    · exact h
  case app2 esz eb x y =>
    rw [opd_agree (x := x) hag.left, opd_agree (x := y) hag.right]
    split at h
    · split at h
      · exact ⟨h.1, h.2.1, h.2.2.1, h.2.2.2.1, h.2.2.2.2.1, h.2.2.2.2.2.1, h.2.2.2.2.2.2.1, hK _ _ h.2.2.2.2.2.2.2.1, hK _ _ h.2.2.2.2.2.2.2.2⟩
      · exact h
    · exact h
  case del m k =>
    rw [opd_agree (x := m) hag.left, opd_agree (x := k) hag.right]
    split at h
    · split at h
      · split at h
        · exact hK _ _ h
        · exact hK _ _ h
      · exact hK _ _ h
      · exact h
    · exact h
  case mark x =>
    rw [opd_agree (x := x) hag]
    split at h
    · split at h
      · exact ⟨h.1, hK _ _ h.2⟩
      · exact h
    · exact h
  case s2b x =>
    rw [opd_agree (x := x) hag]
    split at h
    · exact hK _ _ h
    · exact h
  case b2s x =>
    rw [opd_agree (x := x) hag]
    split at h
    · split at h
      · split at h
        · exact hK _ _ h
        · exact h
      · exact h
    · exact h

/-- A writing operation says the same of a frame that agrees on what it reads. -/
theorem evOp_agree {C : CallT} {k : AOper} {KK : Fr → Heap → Prop} {XX : V → Heap → Prop} (hl : late k.op = false) (hag : Agree fs fr k.op.reads) (hds : fs.ds = fr.ds) (hC : CLe C C) (h : evOp C fr H k KK XX) :
    evOp C fs H k (fun fs' H' => ∃ v fr', fs'.tm = (fs.put k.dst v).tm ∧ fr'.tm = (fr.put k.dst v).tm ∧ fs'.ds = fr'.ds ∧ KK fr' H') XX := by
  have pds : ∀ v, (fs.put k.dst v).ds = (fr.put k.dst v).ds := fun v => by cases k.dst <;> exact hds
  unfold evOp at h ⊢
  cases hop : k.op <;> rw [hop] at hl hag h <;> simp only [late, pureOp, isLoad, isFresh, Bool.or_false, Bool.or_self, Bool.true_or, Bool.or_true] at hl <;> simp only at h ⊢
  all_goals try (cases hl; done)
  case call f args =>
    rw [callee_agree hag]
    split at h
    · refine hC _ _ _ _ _ (fun o H' ho => ?_) h
      cases o with
      | ret v => exact ⟨v, fr.put k.dst v, rfl, rfl, pds v, ho⟩
      | pan v => exact ho
    · exact h
  case dfr f args =>
    rw [callee_agree hag]
    split at h
    · rename_i g l _
      exact ⟨.un, ⟨(fr.put k.dst .un).tm, (g, l) :: fr.ds⟩, rfl, rfl, by simp [hds], h⟩
    · exact h
  case pan x =>
    rw [opd_agree (x := x) hag]
    exact h
  case yc f args =>
    rw [opd_agree (x := f) hag.left, opds_agree (xs := args) hag.right]
    split at h
    · refine hC _ _ _ _ _ (fun o H' ho => ?_) h
      cases o with
      | ret v => exact ⟨v, fr.put k.dst v, rfl, rfl, pds v, ho⟩
      | pan v => exact ho
    · exact h
  case mp q =>
    exact evM_agree hag (fun v H' hk => ⟨v, _, rfl, rfl, pds v, hk⟩) h
  all_goals
    rw [step_agree hag]
    split at h
    · rename_i v H' _; exact ⟨v, _, rfl, rfl, pds v, h⟩
    · exact h

theorem SC_le : CLe (SC L P nd) (SC L P nd) := by
  intro g l H Q Q' hQ h
  have up : ∀ ι w e w', CP L ι H w Q e w' → CP L ι H w Q' e w' := by
    rintro ι w e w' ⟨ι', H', s', x', hm⟩
    refine ⟨ι', H', s', x', ?_⟩
    cases e with
    | returned v' => obtain ⟨v, a, b⟩ := hm; exact ⟨v, a, hQ _ _ b⟩
    | panicked chain => obtain ⟨v, v', a, b, c⟩ := hm; exact ⟨v, v', a, b, hQ _ _ c⟩
    | outgrown => exact hm
  refine ⟨fun hd ι w args s r => ?_, fun ps asg bd nt hρ ι w b c z as vals hl s hb hv => ?_, fun hs ι w b c z hl s hb => ?_⟩
  rotate_left
  · obtain ⟨f, tmps, q1, q2⟩ := h.2.1 ps asg bd nt hρ ι w b c z as vals hl s hb hv
    exact ⟨f, tmps, q1, q2.mono (up ι w)⟩
  · obtain ⟨w', q1, q2⟩ := h.2.2 hs ι w b c z hl s hb
    exact ⟨w', q1, up ι w _ _ q2⟩
  obtain ⟨h1, h2⟩ := h.1 hd ι w args s r
  have up := up ι w
  exact ⟨h1.mono up, fun hn u => (h2 hn u).mono fun e u' w' he => ⟨he.1, up _ _ he.2⟩⟩

/-- Something is ready, as long as anything is left. -/
theorem Inv.some_ready (h : Inv L P nd nt ops ι0 H0 w0 X K tab done last cl pend fs fr H ι listed a w) (hne : pend ≠ [] ∨ cl ≠ []) : Region.ready .any ops listed ≠ [] := by
  have mk : ∀ (x : AOper) (o : Oper), ops[x.ix]? = some o → listed.getD x.ix false = false → (∀ e ∈ o.after, Region.binds .any e = true → listed.getD e.on false = true) → Region.ready .any ops listed ≠ [] := by
    intro x o ho hl he hnil
    have : x.ix ∈ Region.ready .any ops listed := by
      rw [mem_ready]
      refine ⟨?_, o, ho, he⟩
      have hlt : x.ix < listed.size := by rw [h.lsize]; exact (Array.getElem?_eq_some_iff.1 ho).1
      simp [hlt] at hl ⊢; exact hl
    rw [hnil] at this; cases this
  by_cases hp : pend = []
  · obtain ⟨k, r, rfl⟩ := List.exists_cons_of_ne_nil (hne.resolve_left (fun e => e hp))
    obtain ⟨o, c⟩ := ckD_step h.tab_ h.ck
    refine mk k o c.at_ (h.lcl k List.mem_cons_self) (fun e he hb => ?_)
    obtain ⟨y, hy, hye⟩ := c.edges e he hb
    rcases h.ldone y hy with h1 | ⟨p, hpp, _⟩
    · rw [← hye]; exact h1
    · rw [hp] at hpp; cases hpp
  · obtain ⟨p, ps, rfl⟩ := List.exists_cons_of_ne_nil hp
    -- the deepest one of 'done' that is not listed
    have deep : ∀ (l : List AOper), Topo ops l → (∀ y ∈ l, ∃ o, ops[y.ix]? = some o) → (∃ y ∈ l, listed.getD y.ix false = false) →
        ∃ y ∈ l, listed.getD y.ix false = false ∧ ∀ o, ops[y.ix]? = some o → ∀ e ∈ o.after, Region.binds .any e = true → listed.getD e.on false = true := by
      intro l ht ho hex
      induction l with
      | nil => obtain ⟨y, hy, _⟩ := hex; cases hy
      | cons x l ih =>
        by_cases hl : ∃ y ∈ l, listed.getD y.ix false = false
        · obtain ⟨y, hy, h1⟩ := ih ht.2 (fun y hy => ho y (List.mem_cons_of_mem _ hy)) hl
          exact ⟨y, List.mem_cons_of_mem _ hy, h1⟩
        · have all : ∀ y ∈ l, listed.getD y.ix false = true := fun y hy => by
            cases hx : listed.getD y.ix false with
            | true => rfl
            | false => exact absurd ⟨y, hy, hx⟩ hl
          obtain ⟨y, hy, h1⟩ := hex
          rcases List.mem_cons.1 hy with rfl | hy
          · refine ⟨y, List.mem_cons_self, h1, fun o ho' e he hb => ?_⟩
            obtain ⟨z, hz, hze⟩ := ht.1 o ho' e he hb
            rw [← hze]; exact all z hz
          · rw [all y hy] at h1; cases h1
    obtain ⟨y, hy, h1, h2⟩ := deep done h.topo (fun y hy => let ⟨o, ho, _⟩ := h.opers y hy; ⟨o, ho⟩) ⟨p.x, h.pdone p List.mem_cons_self, h.lpend p List.mem_cons_self⟩
    obtain ⟨o, ho, _⟩ := h.opers y hy
    exact mk y o ho h1 (h2 o ho)

theorem draw_main (kk : Linked0 L P) {Q : Post} (hK : ∀ fr H, K fr H → ∃ l, Q .normal (fr.keep l) H) (hX : ∀ fr v H, X fr v H → Q (.pan v) ⟨[], fr.ds⟩ H) :
    ∀ (n m : Nat) (tab : List (Nat × Msk)) (done : List AOper) (last : Option Nat) (cl : List AOper) (pend : List Pe) (fs fr : Fr) (H : Heap) (ι : Im) (listed : Array Bool) (a : Act) (w : World),
      pend.length + cl.length = n → cl.length = m → Inv L P nd nt ops ι0 H0 w0 X K tab done last cl pend fs fr H ι listed a w → wpAny P .any ops (LQ L nt ι0 H0 w0 Q) n listed a w := by
  intro n
  induction n with
  | zero =>
    intro m tab done last cl pend fs fr H ι listed a w hn hm h
    have hp : pend = [] := List.eq_nil_of_length_eq_zero (by omega)
    have hc : cl = [] := List.eq_nil_of_length_eq_zero (by omega)
    subst hp hc
    refine ⟨?_, ?_⟩
    · rw [List.eq_nil_iff_forall_not_mem]
      intro j hj
      obtain ⟨hl, o, ho, _⟩ := mem_ready.1 hj
      have hlt : j < ops.size := (Array.getElem?_eq_some_iff.1 ho).1
      rcases h.cover j hlt with ⟨y, hy, rfl⟩ | ⟨x, hx, _⟩
      · rcases h.ldone y hy with h1 | ⟨p, hp, _⟩
        · have hlt2 : y.ix < listed.size := by rw [h.lsize]; exact hlt
          simp [hlt2] at hl h1
          rw [hl] at h1; cases h1
        · cases hp
      · cases hx
    · obtain ⟨l, hq⟩ := hK _ _ h.run
      refine ⟨ι, fr.keep l, H, h.sim, h.ext, ?_, hq⟩
      have : FrRel L ι fr a.tmps := fun t v hv => h.ok.tm t v (by rw [h.f7a t (fun p hp => by cases hp)]; exact hv)
      exact ⟨h.ok.size, this.keep l, by have := h.ok.ds; rw [h.fds] at this; exact this⟩
  | succ n ihn =>
    intro m
    induction m with
    | zero =>
      intro tab done last cl pend fs fr H ι listed a w hn hm h
      have hc : cl = [] := List.eq_nil_of_length_eq_zero hm
      subst hc
      refine ⟨fun hr => absurd hr (h.some_ready (.inl (fun e => by subst e; simp at hn))), fun j hj => ?_⟩
      obtain ⟨hl, o, ho, _⟩ := mem_ready.1 hj
      have hlt : j < ops.size := (Array.getElem?_eq_some_iff.1 ho).1
      rcases h.cover j hlt with ⟨y, hy, rfl⟩ | ⟨x, hx, _⟩
      · rcases h.ldone y hy with h1 | ⟨p, hp, rfl⟩
        · have hlt2 : y.ix < listed.size := by rw [h.lsize]; exact hlt
          simp [hlt2] at hl h1
          rw [hl] at h1; cases h1
        · refine h.exec hp hj (fun l1 l2 fs' ι' a' w' e h' => ihn _ _ _ _ _ _ _ _ _ _ _ _ _ (by rw [e] at hn; simp at hn ⊢; omega) rfl h')
      · cases hx
    | succ m ihm =>
      intro tab done last cl pend fs fr H ι listed a w hn hm h
      obtain ⟨k, r, rfl⟩ := List.exists_cons_of_length_eq_add_one hm
      by_cases hlk : late k.op = true ∨ Skips fr k
      · obtain ⟨t', l', p, fr', H', h'⟩ := h.advance hlk
        exact ihm _ _ _ _ _ _ _ _ _ _ _ _ (by simp at hn ⊢; omega) (by simpa using hm) h'
      · have hl : late k.op = false := by
          cases hx : late k.op with
          | false => rfl
          | true => exact absurd (.inl hx) hlk
        have hns : ¬ Skips fr k := fun hs => hlk (.inr hs)
        refine ⟨fun hr => absurd hr (h.some_ready (.inr (by simp))), fun j hj => ?_⟩
        obtain ⟨hlj, o, ho, _⟩ := mem_ready.1 hj
        have hlt : j < ops.size := (Array.getElem?_eq_some_iff.1 ho).1
        rcases h.cover j hlt with ⟨y, hy, rfl⟩ | ⟨x, hx, rfl⟩
        · rcases h.ldone y hy with h1 | ⟨p, hp, rfl⟩
          · have hlt2 : y.ix < listed.size := by rw [h.lsize]; exact hlt
            simp [hlt2] at hlj h1
            rw [hlj] at h1; cases h1
          · exact h.exec hp hj (fun l1 l2 fs' ι' a' w' e h' => ihn _ _ _ _ _ _ _ _ _ _ _ _ _ (by rw [e] at hn; simp at hn ⊢; omega) rfl h')
        · obtain ⟨o', c⟩ := ckD_step h.tab_ h.ck
          rcases List.mem_cons.1 hx with rfl | hxr
          · -- the writing operation itself
            have hoo : o' = o := by have := c.at_; rw [ho] at this; exact (Option.some.inj this).symm
            subst hoo
            obtain ⟨hw, he⟩ := wants_or_skips h.run hns
            obtain ⟨hd, hdlt, hg, hop⟩ := ckOper_spec c.oper
            have hag : ∀ t ∈ x.names, fs.get t = fr.get t := fun t ht =>
              h.f7a t (fun p hp e => not_anc h hp hj (c.conf p.x (h.pdone p hp) (.inr (dstIn_of e ht))))
            have hwant : Region.wanted o' (yielded ops a.tmps) = true := by
              rcases hw with hw | ⟨t, want, e1, e2⟩
              · rw [hw] at hg
                cases hog : o'.guard with
                | none => exact wanted_none hog _
                | some g' => rw [hog] at hg; simp [ckGuard] at hg
              · have ht : t ∈ x.names := by unfold AOper.names; rw [e1]; exact List.mem_append_right _ (by simp)
                rw [← hag t ht] at e2
                obtain ⟨v', k1, k2⟩ := h.ok.tm t _ e2
                cases k2
                rw [e1] at hg
                cases hog : o'.guard with
                | none => rw [hog] at hg; simp [ckGuard] at hg
                | some g' =>
                  obtain ⟨j, want'⟩ := g'
                  rw [hog] at hg
                  simp only [ckGuard, Bool.and_eq_true, beq_iff_eq] at hg
                  obtain ⟨rfl, hj'⟩ := hg
                  rw [wanted_some hog hj' k1]; simp
            unfold wpOp
            rw [ho]
            dsimp only
            rw [if_pos hwant]
            left
            have he2 := evOp_agree (fs := fs) hl (fun t ht => hag t (List.mem_append_left _ ht)) h.fds SC_le he
            refine evOp_sound kk c.oper h.sim h.ok (fun ι' fs' H' a' w' s' x' hok hkk => ?_) (fun ι' H' w' v v' s' x' hv hx2 => ?_) he2
            · obtain ⟨v, fr', e1, e2, e3, e4, e5⟩ := hkk
              obtain ⟨t', l', h'⟩ := h.wrote c hl hj s' x' hok e1 e2 e3 e4 e5
              exact ihn _ _ _ _ _ _ _ _ _ _ _ _ _ (by simp at hn ⊢; omega) rfl h'
            · refine ⟨ι', ⟨[], fr.ds⟩, H', s', h.ext.trans h.sim0 h.sim x', ⟨h.ok.size, (fun t v h => by cases h), ?_⟩, v, v', rfl, hv, hX _ _ _ hx2⟩
              have := h.ok.ds.mono x'.le
              rw [h.fds] at this; exact this
          · have hr := c.rest
            rw [if_neg (by simp [hl])] at hr
            have hanc := ckD_last r c.tab_ (.inl rfl) hr x hxr
            have := hanc.ready h.closed hj
            rw [h.lcl k List.mem_cons_self] at this; cases this

/-- **A region that draws its order.** -/
theorem draw_sound (kk : Linked0 L P) {Q : Post} {id : Nat} {xs : List AOper} (hm : P.follows .mixedOrders = true) (hc : ckDraw L P nt ops xs = true) (hK : ∀ fr H, K fr H → ∃ l, Q .normal (fr.keep l) H)
    (hX : ∀ fr v H, X fr v H → Q (.pan v) ⟨[], fr.ds⟩ H) (s0 : Sim L ι0 H0 w0) (s : Sim L ι H w) (x : Ext ι0 H0 w0 ι H w) (hf : FrOk L nt ι fr a) (h : evD (SC L P nd) X K [] xs fr H) :
    (Code.region id ops true).wp P (LQ L nt ι0 H0 w0 Q) a w := by
  simp only [ckDraw, Bool.and_eq_true, beq_iff_eq] at hc
  obtain ⟨⟨hlen, hcov⟩, hck⟩ := hc
  refine wp_region_any hm ?_
  have sD : Sim L ι H { w with drawn := w.drawn + 1 } := ⟨s.dn, s.nx, s.lt, s.ok, s.inj⟩
  have xD : Ext ι0 H0 w0 ι H { w with drawn := w.drawn + 1 } := ⟨x.le, x.hs, x.hn, x.ro, x.new, x.kept, x.dom, x.os, x.tape, x.output⟩
  refine draw_main kk hK hX ops.size _ [] [] none xs [] fr fr H ι _ a _ (by simp [hlen]) rfl {
    ck := hck, tab_ := (fun i l hil => by cases hil), topo := trivial, opers := (fun y hy => by cases hy), dix := (fun y hy => by cases hy), dsts := (fun y hy => by cases hy), conf := (fun y hy => by cases hy),
    cover := fun j hj => ?_, clix := fun y hy => ?_, lsize := by simp, closed := fun j o ho hl => ?_, ldone := (fun y hy => by cases hy), lpend := (fun p hp => by cases hp), lcl := fun y hy => ?_,
    pdone := (fun p hp => by cases hp), plate := (fun p hp => by cases hp), pnodup := by simp, pb := (fun p hp => by cases hp), pval := (fun p hp => by cases hp), noself := (fun p hp => by cases hp),
    p6a := (fun p hp => by cases hp), p6b := (fun p hp => by cases hp), p9 := (fun p hp => by cases hp), f7a := fun _ _ => rfl, f7b := (fun p hp => by cases hp), fds := rfl, run := h, sim0 := s0, sim := sD, ext := xD, ok := hf }
  · rw [List.all_eq_true] at hcov
    have := hcov j (List.mem_range.2 hj)
    simp only [List.any_eq_true, beq_iff_eq] at this
    exact .inr this
  · -- each index is one of the region's
    have all : ∀ (r : List AOper) {tab : List (Nat × Msk)} {done : List AOper} {last : Option Nat}, (∀ i l, (i, l) ∈ tab → ∀ k ∈ l, Anc ops k i) → ckD L P nt ops tab done last r = true → ∀ x ∈ r, x.ix < ops.size := by
      intro r
      induction r with
      | nil => intro _ _ _ _ _ x hx; cases hx
      | cons z r ih =>
        intro tab done last ht hk x hx
        obtain ⟨o, c⟩ := ckD_step ht hk
        rcases List.mem_cons.1 hx with rfl | hx
        · exact (Array.getElem?_eq_some_iff.1 c.at_).1
        · exact ih c.tab_ c.rest x hx
    exact all xs (fun i l hil => by cases hil) hck y hy
  · rw [getD_replicate] at hl; cases hl
  · exact getD_replicate _ _

end
end Go.Ab
namespace Go.Ab
variable {L : Lk} {ι : Im} {H : Heap} {w : World} {P : Program}
/-- The function sorts: the two contracts that the shelf has of it. -/
structure SortsInt (P : Program) (f : FuncId) : Prop where
  nil : ∀ (p : Option Addr) (cap : Nat) (w : World), Calls P f #[.slice p 0 cap] w fun e w' => e = .returned (.tuple #[]) ∧ w' = w
  row : ∀ (blk off cap : Nat) (zs : List Int) (w : World), Sort.Holds (Value.int .i64) w blk off zs.toArray → blk < w.heap.size → zs.length < 4611686018427387904 →
    Calls P f #[.slice (some ⟨blk, off, none⟩) zs.length cap] w fun e w' => e = .returned (.tuple #[]) ∧
      ∃ n os, w' = Sort.grow (Sort.putRow (Value.int .i64) (Sort.ahead w n) blk off (zs.mergeSort fun x y => decide (x ≤ y)).toArray) os

/-- A world that has more blocks. -/
theorem Sim.grown {w' : World} (s : Sim L ι H w) (hsz : w.heap.size ≤ w'.heap.size) (hk : ∀ k, k < w.heap.size → w'.heap[k]? = w.heap[k]?) (h1 : w'.os = w.os) (h2 : w'.tape = w.tape) (h3 : w'.output = w.output) :
    Sim L ι H w' ∧ Ext ι H w ι H w' := by
  refine ⟨⟨s.dn, s.nx, fun b c p z e => Nat.lt_of_lt_of_le (s.lt b c p z e) hsz, fun b c p z e => ?_, s.inj⟩,
    ⟨ILe.refl _, hsz, Nat.le_refl _, fun _ _ _ h => h, (fun b c p z e e' => by rw [e] at e'; cases e'), fun c hc _ => hk c hc, fun _ _ h => h, h1, h2, h3⟩⟩
  rw [hk c (s.lt b c p z e)]; exact s.ok b c p z e

theorem srt_sound {f : FuncId} (k : SortsInt P f) {v : V} {x : Value} {K : Heap → Prop} (h : srt (some v) H K) (s : Sim L ι H w) (hv : Rel L ι v x) :
    Calls P f #[x] w fun e w' => e = .returned (.tuple #[]) ∧ ∃ ι' H', Sim L ι' H' w' ∧ Ext ι H w ι' H' w' ∧ K H' := by
  obtain ⟨a, len, cap, e, hx, h⟩ := h
  cases hx
  rcases h with ⟨rfl, hk⟩ | ⟨b, o, l, zs, hlen, rfl, rfl, hg, hzl, hzs, hol, hz, hk⟩
  · have hx : ∃ p cap', x = .slice p 0 cap' := by
      cases a with
      | none => obtain ⟨_, _, rfl⟩ := hv; exact ⟨_, _, rfl⟩
      | some a => obtain ⟨_, A, cap', rfl, _⟩ := hv; exact ⟨_, _, rfl⟩
    obtain ⟨p, cap', rfl⟩ := hx
    refine (k.nil p cap' w).mono fun e w' he => ?_
    obtain ⟨h1, rfl⟩ := he
    exact ⟨h1, ι, H, s, Ext.refl _ _ _, hk⟩
  · obtain ⟨hlc, A, cap', rfl, hcc, hr⟩ := hv
    obtain ⟨c, p, z, q, hb, rfl, hqz, hqo⟩ := hr (by omega)
    have hq := hqo (by omega)
    subst hq
    obtain ⟨arr, ty, fz, e1, e2, e3, e4, e5⟩ := s.row hb hg
    have hfz := e4 rfl
    have hc := s.lt _ _ _ _ hb
    subst hzl
    have cellv : ∀ (j : Nat) (n : Int), zs[j]? = some n → arr[p + o + j]? = some (.int .i64 n) := fun j n hn => by
      obtain ⟨v', k1, k2⟩ := e5 _ _ (hz j n hn)
      have : v' = Value.int .i64 n := k2
      subst this
      rw [Nat.add_assoc]; exact k1
    have hold : Sort.Holds (Value.int .i64) w c (p + o) zs.toArray := by
      intro j hj
      have hj' : j < zs.length := by simpa using hj
      have hzj : zs[j]? = some zs[j] := List.getElem?_eq_getElem hj'
      refine ⟨?_, ?_⟩
      · simp only [World.cell?, e1, Option.isSome_none, Bool.false_eq_true, if_false, cellv j _ hzj]
        rw [getElem!_pos zs.toArray j hj]; simp
      · simp only [World.frozen?, e1]
        rw [Bool.and_eq_false_iff]
        have hjz : p + o + j < arr.size := (Array.getElem?_eq_some_iff.1 (cellv j _ hzj)).1
        rcases Nat.lt_or_ge (p + o + j) fz.2 with h | h
        · exact .inl (by simp; omega)
        · exact .inr (by simp; omega)
    have hms : (zs.mergeSort fun x y => decide (x ≤ y)).length = zs.length := List.length_mergeSort _
    refine (k.row c (p + o) cap' zs w hold hc hzs).mono fun e w' he => ?_
    obtain ⟨h1, n, os, rfl⟩ := he
    generalize zs.mergeSort (fun x y => decide (x ≤ y)) = ys at hms hk ⊢
    obtain ⟨s1, x1⟩ := s.put (vs := ys.map (V.int .i64)) (ws := ys.map (Value.int .i64)) (o := o) hb hg (by simp; omega) (by
      refine RelL.of_get (by simp) fun i v hv => ?_
      rw [List.getElem?_map] at hv
      obtain ⟨m, m1, rfl⟩ := Option.map_eq_some_iff.1 hv
      exact ⟨_, by rw [List.getElem?_map, m1]; rfl, rfl⟩)
    obtain ⟨z1, z2, z3, z4⟩ := stW_same (ys.map (Value.int .i64)) w c (p + o)
    obtain ⟨s2, x2⟩ := s1.grown (w' := Sort.grow (Sort.putRow (Value.int .i64) (Sort.ahead w n) c (p + o) ys.toArray) os) (by
        rw [z1]; simp [Sort.grow, Sort.putRow, Sort.mapBlock, Sort.ahead]) (fun j hj => by
        rw [z1] at hj
        have g1 : (Sort.grow (Sort.putRow (Value.int .i64) (Sort.ahead w n) c (p + o) ys.toArray) os).heap[j]? = (w.heap.modify c (Sort.onCells (Sort.putCells (Value.int .i64) (p + o) ys.toArray)))[j]? := by
          show ((w.heap.modify c (Sort.onCells (Sort.putCells (Value.int .i64) (p + o) ys.toArray))) ++ os)[j]? = _
          rw [Array.getElem?_append_left (by simp; exact hj)]
        rw [g1, Array.getElem?_modify]
        by_cases hjc : j = c
        · subst hjc
          rw [if_pos rfl, e1, stW_heap _ w (p + o) e1]
          simp only [Option.map_some, Sort.onCells]
          congr 2
          apply Array.ext_getElem?
          intro i
          rw [stA_get _ arr (p + o) _ (by simp; omega)]
          unfold Sort.putCells
          rw [Array.getElem?_mapIdx]
          by_cases hi : p + o ≤ i ∧ i < p + o + ys.length
          · have hi2 : i < arr.size := by omega
            rw [if_pos (by simpa using hi), Array.getElem?_eq_getElem hi2, Option.map_some, if_pos (by simpa using hi), List.getElem?_map]
            rw [List.getElem?_eq_getElem (by omega : i - (p + o) < ys.length), Option.map_some]
            rw [getElem!_pos ys.toArray (i - (p + o)) (by simp; omega)]; simp
          · rw [if_neg (by simpa using hi)]
            cases arr[i]? with
            | none => rfl
            | some y => rw [Option.map_some, if_neg (by simpa using hi)]
        · rw [if_neg (fun e => hjc e.symm), stW_other _ w (p + o) hjc]) z2.symm z3.symm z4.symm
    exact ⟨h1, ι, _, s2, x1.trans s s1 x2, hk⟩

end Go.Ab
namespace Go.Ab
variable {L : Lk} {P : Program}
def LoopW (P : Program) (c : Code) (Q : Exit → Act → World → Prop) (a : Act) (w : World) : Prop :=
  ∀ (b : Frame) (k : List Item) (cs : List Frame), ∃ e a' w', Q e a' w' ∧ Arrives P (lone (b.at a (.code c :: .inLoop c :: k)) cs w) b k cs e a' w'

theorem wp_of_loopW {c : Code} {Q : Exit → Act → World → Prop} {a : Act} {w : World} (h : LoopW P c Q a w) : (Code.loop c).wp P Q a w := fun b k cs =>
  let ⟨e, a', w', hq, harr⟩ := h b k cs
  ⟨e, a', w', hq, .of_steps (.one step_loop) harr⟩

theorem loopW_round {c : Code} {Q : Exit → Act → World → Prop} {a : Act} {w : World} (h : c.wp P (Exit.then (LoopW P c Q) Q) a w) : LoopW P c Q a w := by
  intro b k cs
  obtain ⟨e, a₁, w₁, hq, harr⟩ := h b (.inLoop c :: k) cs
  cases e with
  | normal =>
    obtain ⟨e₂, a₂, w₂, hq₂, harr₂⟩ := hq b k cs
    exact ⟨e₂, a₂, w₂, hq₂, .of_steps (Steps.trans harr (.one step_inLoop)) harr₂⟩
  | exit id => exact ⟨_, a₁, w₁, hq, .pass (x := .inLoop c) rfl (fun _ _ => .inl (by simp)) harr⟩
  | goto l => exact ⟨_, a₁, w₁, hq, .pass (x := .inLoop c) rfl (fun _ _ => .inl (by simp)) harr⟩
  | ret => exact ⟨_, a₁, w₁, hq, .pass (x := .inLoop c) rfl (fun _ _ => .inl (by simp)) harr⟩
  | panic ch => exact ⟨_, a₁, w₁, hq, .pass (x := .inLoop c) rfl (fun _ _ => .inl (by simp)) harr⟩
  | outgrown => exact ⟨_, a₁, w₁, hq, .pass (x := .inLoop c) rfl (fun _ _ => .inl (by simp)) harr⟩

def ScopeW (P : Program) (body d : Code) (Q : Exit → Act → World → Prop) (a : Act) (w : World) : Prop :=
  ∀ (b : Frame) (k : List Item) (cs : List Frame), ∃ e a' w', Q e a' w' ∧ Arrives P (lone (b.at a (.code d :: .inScope body :: k)) cs w) b k cs e a' w'

theorem scopeW_pass {body d : Code} {l : Nat} {Q : Exit → Act → World → Prop} {a : Act} {w : World} (hf : findLabel body l = some (.seq .skip d))
    (h : d.wp P (fun e a' w' => match e with | .goto l' => l' = l ∧ ScopeW P body d Q a' w' | e => Q e a' w') a w) : ScopeW P body d Q a w := by
  intro b k cs
  have hg : gotoIn l (.inScope body :: k) = some (.code (.seq .skip d) :: .inScope body :: k) := by simp [gotoIn, hf]
  obtain ⟨e, a₁, w₁, hq, harr⟩ := h b (.inScope body :: k) cs
  cases e with
  | normal => exact ⟨.normal, a₁, w₁, hq, Steps.trans harr (.one step_inScope)⟩
  | exit id => exact ⟨.exit id, a₁, w₁, hq, fun k' hk => harr k' (by simp [exitTo, hk])⟩
  | goto l' =>
    obtain ⟨rfl, hJ⟩ := hq
    obtain ⟨e₂, a₂, w₂, hq₂, harr₂⟩ := hJ b k cs
    exact ⟨e₂, a₂, w₂, hq₂, .of_steps (harr _ hg) (.of_steps (.head step_seq (.one step_skip)) harr₂)⟩
  | ret => exact ⟨_, a₁, w₁, hq, harr⟩
  | panic ch => exact ⟨_, a₁, w₁, hq, harr⟩
  | outgrown => exact ⟨_, a₁, w₁, hq, harr⟩

/-- What is ahead of the label, then the label's part. -/
theorem wp_scope_lbl {c d : Code} {l : Nat} {Q : Exit → Act → World → Prop} {a : Act} {w : World}
    (h : c.wp P (fun e a' w' => match e with | .normal => ScopeW P (.seq c (.seq (.label l) d)) d Q a' w' | .goto _ => False | e => Q e a' w') a w) : (Code.scope (.seq c (.seq (.label l) d))).wp P Q a w := by
  intro b k cs
  obtain ⟨e, a₁, w₁, hq, harr⟩ := h b (.code (.seq (.label l) d) :: .inScope (.seq c (.seq (.label l) d)) :: k) cs
  have hs : Steps P (lone (b.at a (.code (.scope (.seq c (.seq (.label l) d))) :: k)) cs w) (lone (b.at a (.code c :: .code (.seq (.label l) d) :: .inScope (.seq c (.seq (.label l) d)) :: k)) cs w) := .head step_scope (.one step_seq)
  cases e with
  | normal =>
    obtain ⟨e₂, a₂, w₂, hq₂, harr₂⟩ := hq b k cs
    exact ⟨e₂, a₂, w₂, hq₂, .of_steps (Steps.trans hs (Steps.trans harr (.head step_seq (.one step_label)))) harr₂⟩
  | exit id => exact ⟨.exit id, a₁, w₁, hq, fun k' hk => Steps.trans hs (harr k' (by simp [exitTo, hk]))⟩
  | goto l' => exact hq.elim
  | ret => exact ⟨_, a₁, w₁, hq, .of_steps hs harr⟩
  | panic ch => exact ⟨_, a₁, w₁, hq, .of_steps hs harr⟩
  | outgrown => exact ⟨_, a₁, w₁, hq, .of_steps hs harr⟩

/-- The label first of all. -/
theorem wp_scope_lbl0 {d : Code} {l : Nat} {Q : Exit → Act → World → Prop} {a : Act} {w : World} (h : ScopeW P (.seq (.label l) d) d Q a w) : (Code.scope (.seq (.label l) d)).wp P Q a w := by
  intro b k cs
  obtain ⟨e, a₁, w₁, hq, harr⟩ := h b k cs
  exact ⟨e, a₁, w₁, hq, .of_steps (.head step_scope (.head step_seq (.one step_label))) harr⟩

/-- No fence but the round's frame. -/
def wF (ro : Option Nat) : Fence := { Fence.wide with round := ro }
theorem calls_wF {ro : Option Nat} {n : Nat} {f : FuncId} {args : Array Value} {w : World} {R : Ending → World → Prop} (h : Calls P f args w R) : CallsIn (wF ro) n P f args w R :=
  (callsIn_wide (n := n)).2 h
def noDefer (o : Oper) : Bool := match o.op with | .defer _ => false | _ => true
theorem rows_wF {ro : Option Nat} {n : Nat} {row : String} {args : Array Value} {w : World} {R R' : Act → World → Prop} {p : Value → Act} (hK : ∀ a w, R a w → R' a w) (h : Rows P row args w fun v w'' => R (p v) w'') :
    ((wF ro).depth.isSome = true → 1 ≤ n) ∧ RowsIn (wF ro) (n - 1) P row args w fun v w'' => R' (p v) w'' :=
  ⟨fun hh => (by cases hh), fun c cs _ =>
    let ⟨v, w'', h1, h2⟩ := h c cs
    ⟨v, w'', hK _ _ h1, (stepsIn_wide).2 h2⟩⟩
theorem op_round {ro : Option Nat} {o : Oper} {a : Act} {w : World} {K K' : Act → World → Prop} {Q : Exit → Act → World → Prop} (hd : ro = none ∨ noDefer o = true) (hK : ∀ a w, K a w → K' a w) (h : o.wp P a w K Q) : o.wpIn (wF ro) 0 P a w K' Q := by
  refine ⟨fun _ _ => trivial, ?_⟩
  have hsem : Oper.semAt (wF ro).round a.eval o = execOp a.eval o := by
    rcases hd with rfl | hd
    · rfl
    · exact Oper.semAt_eq _ _ _ (fun c hc => by unfold noDefer at hd; rw [hc] at hd; cases hd)
  rw [hsem]
  unfold Oper.wp at h
  generalize (execOp a.eval o).run P w = r at h
  cases r with
  | ok x w' =>
    cases x <;> simp only [Oper.upon, Oper.uponIn] at h ⊢ <;>
      first
        | exact hK _ _ h
        | exact h.elim
        | exact ⟨fun hh => (by cases hh), calls_wF (Calls.mono h (fun e w'' he => by cases e <;> first | exact hK _ _ he | exact he))⟩
        | exact rows_wF hK h
  | halt x w' => cases x <;> simp only [Oper.upon, Oper.uponIn] at h ⊢ <;> first | exact h | exact h.elim
theorem any_round {ro : Option Nat} {md : Region.Mode} {ops : Array Oper} {Q : Exit → Act → World → Prop} (hl : ¬ LetsOut Q) (hd : ops.toList.all noDefer = true) : ∀ (n : Nat) (b : Array Bool) (a : Act) (w : World), wpAny P md ops Q n b a w → wpAnyIn (wF ro) 0 P md ops Q n b a w
  | 0, _, _, _, h => h
  | n + 1, b, a, w, h => by
    refine ⟨h.1, fun i hi => ?_⟩
    have := h.2 i hi
    unfold wpOp at this
    unfold wpOpIn
    split at this
    · rename_i ho; rw [ho]; exact any_round hl hd n _ _ _ this
    · rename_i o ho
      rw [ho]
      dsimp only
      have hdo : noDefer o = true := List.all_eq_true.1 hd o (by
        obtain ⟨h1, h2⟩ := Array.getElem?_eq_some_iff.1 ho
        rw [← h2]; exact Array.getElem_mem_toList h1)
      split at this
      · rename_i hw
        rw [if_pos hw]
        rcases this with h | h
        · exact op_round (.inr hdo) (fun a w k => any_round hl hd n _ a w k) h
        · exact (hl h.2).elim
      · rename_i hw
        rw [if_neg hw]
        exact ⟨fun _ _ => trivial, any_round hl hd n _ _ _ this⟩

/-- An operation that calls a yield. -/
def isYc : AOp → Bool | .yc _ _ => true | _ => false
theorem ckOper_ny {nt : Nat} {ops : Array Oper} {x : AOper} {o : Oper} (hy : isYc x.op = false) (h : ckOper L P nt ops x o true = true) : ckOper L P nt ops x o = true := by
  have e : ckOp L P x.op o.op true = ckOp L P x.op o.op := by cases hx : x.op <;> first | rfl | (rw [hx] at hy; cases hy)
  unfold ckOper at h ⊢
  rw [← e]
  exact h
theorem lq_out {nt : Nat} {ι0 : Im} {H0 : Heap} {w0 : World} {Q : Post} : ¬ LetsOut (LQ L nt ι0 H0 w0 Q) := fun ⟨_, _, _, _, _, _, _, _, h⟩ => h
/-- A call of a yield. -/
theorem yc_sound {nt : Nat} {nd : Nat → Bool} {ops : Array Oper} {ro : Option Nat} {ι : Im} {H : Heap} {w : World} {fr : Fr} {a : Act} {x : AOper} {o : Oper} (hc : ckOper L P nt ops x o true = true) (hy : isYc x.op = true) (s : Sim L ι H w) (hf : FrOk L nt ι fr a)
    {K : Fr → Heap → Prop} {X : V → Heap → Prop} {K' : Act → World → Prop} {Q' : Exit → Act → World → Prop}
    (hK : ∀ ι' fr' H' a' w', Sim L ι' H' w' → Ext ι H w ι' H' w' → FrOk L nt ι' fr' a' → K fr' H' → K' a' w')
    (h : evOp (SC L P nd) fr H x K X) : o.wpIn (wF ro) 0 P a w K' Q' := by
  obtain ⟨hd, hlt, hg, hop⟩ := ckOper_spec hc
  obtain ⟨xd, xo, xg, xi, xr⟩ := x
  obtain ⟨od, oo, ty, pos, af, og⟩ := o
  simp only at hd hop
  subst hd
  cases xo <;> simp only [isYc] at hy <;> try (cases hy; done)
  rename_i f args
  simp only [ckOp, Bool.true_and] at hop
  cases oo <;> try (cases hop; done)
  rename_i c
  simp only [evOp] at h
  split at h
  · rename_i y b l e1 e2
    obtain ⟨cal, cargs, cty⟩ := c
    unfold ckCall at hop
    dsimp only at hop
    split at hop
    · rename_i f'
      obtain ⟨h1, h2⟩ := and2 hop
      obtain ⟨cc, z, hb, hv, hr⟩ := opd_rel hf.tm h1 e1
      have hl := opds_rel hf.tm h2 e2
      obtain ⟨⟨ps, asg, bd, rn⟩, hρ⟩ := Option.isSome_iff_exists.1 hr
      obtain ⟨g, tmps, q1, q2⟩ := h.2.1 ps asg bd rn hρ ι w b cc z l (cargs.map a.eval) rfl s hb (by rw [Array.toList_map]; exact hl)
      refine ⟨fun _ _ => trivial, ?_⟩
      rw [Oper.semAt_eq _ _ _ (fun c hc => by cases hc)]
      have hrun : (execOp a.eval ⟨xd, .call ⟨.value f', cargs, cty⟩, ty, pos, af, og⟩).run P w = .ok (.round cc g tmps asg bd) w := by
        simp only [execOp, Sem.run_bind, resolve, hv, Deferred.ofValue, Sem.run_pure, Result.andThen_ok, invoke]
        simpa using q1
      rw [hrun, Oper.uponIn_round]
      refine ⟨fun hh => (by cases hh), RoundIn.mono q2 fun e w' he => ?_⟩
      obtain ⟨ι', H', s', x', hm⟩ := he
      cases e with
      | returned v' =>
        obtain ⟨v, hv, hq⟩ := hm
        exact hK ι' _ H' (a.put xd v') w' s' x' ((hf.mono x'.le).put hlt hv) hq
      | panicked chain => obtain ⟨_, _, _, _, hq⟩ := hm; exact hq.elim
      | outgrown => exact hm.elim
    · cases hop
  · exact h.elim
/-- A list of operations, one by one; calls of a yield among them. -/
theorem evOps_round {nt : Nat} {nd : Nat → Bool} {ops : Array Oper} {ro : Option Nat} (k : Linked0 L P) {ι0 : Im} {H0 : Heap} {w0 : World} (s0 : Sim L ι0 H0 w0) {K : Fr → Heap → Prop} {X : Fr → V → Heap → Prop} {Q : Post}
    (hK : ∀ fr H, K fr H → ∃ l, Q .normal (fr.keep l) H) (hX : ∀ fr v H, X fr v H → Q (.pan v) fr H) :
    ∀ (xs : List AOper) (os : List Oper) (fr : Fr) (H : Heap) (ι : Im) (a : Act) (w : World), ckSeq L P nt ops true xs os = true → (ro = none ∨ os.all noDefer = true) → Sim L ι H w → Ext ι0 H0 w0 ι H w → FrOk L nt ι fr a →
      evOps (SC L P nd) X K xs fr H → wpListIn (wF ro) 0 P ops (LQ L nt ι0 H0 w0 Q) os a w
  | [], [], fr, H, ι, a, w, _, _, s, x, hf, h => by
    obtain ⟨l, hl⟩ := hK _ _ h
    exact ⟨ι, fr.keep l, H, s, x, hf.keep l, hl⟩
  | [], _ :: _, _, _, _, _, _, hc, _, _, _, _, _ => by simp [ckSeq] at hc
  | _ :: _, [], _, _, _, _, _, hc, _, _, _, _, _ => by simp [ckSeq] at hc
  | y :: r, o :: os, fr, H, ι, a, w, hc, ho, s, x, hf, h => by
    simp only [ckSeq, Bool.and_eq_true] at hc
    obtain ⟨hc1, hc2⟩ := hc
    have ho1 : ro = none ∨ noDefer o = true := ho.imp_right fun h => by simp only [List.all_cons, Bool.and_eq_true] at h; exact h.1
    have ho2 : ro = none ∨ os.all noDefer = true := ho.imp_right fun h => by simp only [List.all_cons, Bool.and_eq_true] at h; exact h.2
    have one : evOp (SC L P nd) fr H y (evOps (SC L P nd) X K r) (X fr) → o.wpIn (wF ro) 0 P a w (wpListIn (wF ro) 0 P ops (LQ L nt ι0 H0 w0 Q) os) (LQ L nt ι0 H0 w0 Q) := fun h => by
      have next : ∀ ι' fr' H' a' w', Sim L ι' H' w' → Ext ι H w ι' H' w' → FrOk L nt ι' fr' a' → evOps (SC L P nd) X K r fr' H' → wpListIn (wF ro) 0 P ops (LQ L nt ι0 H0 w0 Q) os a' w' := fun ι' fr' H' a' w' s' x' hf' hk =>
        evOps_round k s0 hK hX r os fr' H' ι' a' w' hc2 ho2 s' (x.trans s0 s x') hf' hk
      cases hy : isYc y.op with
      | true => exact yc_sound hc1 hy s hf next h
      | false => exact op_round ho1 (fun _ _ k => k) (evOp_sound k (ckOper_ny hy hc1) s hf next
          (fun ι' H' w' v v' s' x' hv hx => ⟨ι', fr, H', s', x.trans s0 s x', hf.mono x'.le, v, v', rfl, hv, hX _ _ _ hx⟩) h)
    obtain ⟨hd, hlt, hg, hop⟩ := ckOper_spec hc1
    have skip : evOps (SC L P nd) X K r (fr.put y.dst (.tup [])) H → wpListIn (wF ro) 0 P ops (LQ L nt ι0 H0 w0 Q) os (a.put o.dst undef) w := fun h =>
      evOps_round k s0 hK hX r os _ H ι _ w hc2 ho2 s x (by rw [← hd]; exact hf.put hlt ⟨#[], rfl, rfl⟩) h
    unfold evOps at h
    unfold wpListIn
    cases hyg : y.g with
    | none =>
      rw [hyg] at h hg
      cases hog : o.guard with
      | some g => rw [hog] at hg; simp [ckGuard] at hg
      | none => rw [wanted_none hog, if_pos rfl]; exact one h
    | some g =>
      obtain ⟨t, want⟩ := g
      rw [hyg] at h hg
      cases hog : o.guard with
      | none => rw [hog] at hg; simp [ckGuard] at hg
      | some g' =>
        obtain ⟨j, want'⟩ := g'
        rw [hog] at hg
        simp only [ckGuard, Bool.and_eq_true, beq_iff_eq] at hg
        obtain ⟨rfl, hj⟩ := hg
        dsimp only at h
        split at h
        · rename_i b hb
          obtain ⟨v', e1, e2⟩ := hf.tm t _ hb
          cases e2
          rw [wanted_some hog hj e1]
          unfold gif at h
          by_cases hw : (b == want) = true
          · rw [if_pos hw] at h; rw [if_pos hw]; exact one h
          · rw [if_neg hw] at h; rw [if_neg hw]; exact ⟨fun _ _ => trivial, skip h⟩
        · rename_i hb
          obtain ⟨v', e1, vs, e2, e3⟩ := hf.tm t _ hb
          rw [wanted_off hog hj (by rw [e1, e2]) (fun b e => by cases e), if_neg (by decide)]; exact ⟨fun _ _ => trivial, skip h⟩
        · exact h.elim

def Cd.isSkip : Cd → Bool | .skip => true | _ => false
theorem Cd.isSkip_spec {c : Cd} (h : c.isSkip = true) : c = .skip := by cases c <;> first | rfl | cases h
def ckCd (L : Lk) (P : Program) (nt : Nat) : Cd → Code → Bool
  | .skip, .skip => true
  | .skip, .label _ => true
  | .reg b _ xs, .region _ ops d => b == d && (if b then ckDraw L P nt ops xs else ckSeq L P nt ops true xs ops.toList)
  | .seq a b, .seq c d => ckCd L P nt a c && ckCd L P nt b d
  | .cond c x y, .cond c' x' y' => ckOpd L c c' && ckCd L P nt x x' && ckCd L P nt y y'
  | .block id c, .block id' c' => id == id' && ckCd L P nt c c'
  | .loop _ c, .loop c' => ckCd L P nt c c'
  | .exit id, .exit id' => id == id'
  | .ret, .ret => true
  | .scope c, .scope c' => ckCd L P nt c c'
  | .gscope a l _ b, .scope s => (match s with
    | .seq (.label l') d => a.isSkip && l == l' && ckCd L P nt b d
    | .seq c (.seq (.label l') d) => l == l' && (findLabel c l').isNone && ckCd L P nt a c && ckCd L P nt b d
    | _ => false)
  | .goto l, .goto l' => l == l'
  | .rangeF f _ sh _, .rangeFunc g _ _ _ => ckOpd L f g && L.sh sh
  | _, _ => false

/-- No range over a function. -/
def noRng : Cd → Bool
  | .seq a b => noRng a && noRng b
  | .cond _ a b => noRng a && noRng b
  | .block _ c => noRng c
  | .loop _ c => noRng c
  | .scope c => noRng c
  | .gscope a _ _ b => noRng a && noRng b
  | .rangeF _ _ _ _ => false
  | _ => true
/-- Ranges over functions: their rounds are those of the table. -/
def rngsOk (L : Lk) (nt : Nat) : Cd → Code → Prop
  | .seq a b, .seq c d => rngsOk L nt a c ∧ rngsOk L nt b d
  | .cond _ x y, .cond _ x' y' => rngsOk L nt x x' ∧ rngsOk L nt y y'
  | .block _ c, .block _ c' => rngsOk L nt c c'
  | .loop _ c, .loop c' => rngsOk L nt c c'
  | .scope c, .scope c' => rngsOk L nt c c'
  | .gscope a _ _ b, _ => noRng a = true ∧ noRng b = true
  | .rangeF _ y _ _, .rangeFunc _ ps asg bd => L.ρ y = some (ps, asg, bd, nt)
  | _, _ => True
theorem rngsOk_of {nt : Nat} : ∀ {c : Cd} {c' : Code}, noRng c = true → rngsOk L nt c c'
  | .skip, c', _ => by cases c' <;> trivial
  | .reg _ _ _, c', _ => by cases c' <;> trivial
  | .seq a b, c', h => by
    simp only [noRng, Bool.and_eq_true] at h
    cases c' <;> first | trivial | exact ⟨rngsOk_of h.1, rngsOk_of h.2⟩
  | .cond _ a b, c', h => by
    simp only [noRng, Bool.and_eq_true] at h
    cases c' <;> first | trivial | exact ⟨rngsOk_of h.1, rngsOk_of h.2⟩
  | .block _ c, c', h => by cases c' <;> first | trivial | exact rngsOk_of (c := c) h
  | .loop _ c, c', h => by cases c' <;> first | trivial | exact rngsOk_of (c := c) h
  | .exit _, c', _ => by cases c' <;> trivial
  | .ret, c', _ => by cases c' <;> trivial
  | .scope c, c', h => by cases c' <;> first | trivial | exact rngsOk_of (c := c) h
  | .gscope a l live b, c', h => by
    simp only [noRng, Bool.and_eq_true] at h
    cases c' <;> exact h
  | .goto _, c', _ => by cases c' <;> trivial
  | .recov _ _, c', _ => by cases c' <;> trivial
  | .rnd _ _ _ _, c', _ => by cases c' <;> trivial
  | .shut, c', _ => by cases c' <;> trivial
  | .orc, c', _ => by cases c' <;> trivial
  | .rangeF _ _ _ _, _, h => by cases h

theorem ckG {nt : Nat} {c d : Cd} {l : Nat} {live : List Nat} {c' : Code} (hc : ckCd L P nt (.gscope c l live d) c' = true) :
    (∃ c2 d2, c' = .scope (.seq c2 (.seq (.label l) d2)) ∧ (findLabel c2 l).isNone = true ∧ ckCd L P nt c c2 = true ∧ ckCd L P nt d d2 = true) ∨
    ∃ d2, c = .skip ∧ c' = .scope (.seq (.label l) d2) ∧ ckCd L P nt d d2 = true := by
  cases c' <;> try (simp [ckCd] at hc; done)
  simp only [ckCd] at hc
  split at hc
  · simp only [Bool.and_eq_true, beq_iff_eq] at hc
    obtain ⟨⟨h1, rfl⟩, h2⟩ := hc
    exact .inr ⟨_, Cd.isSkip_spec h1, rfl, h2⟩
  · simp only [Bool.and_eq_true, beq_iff_eq] at hc
    obtain ⟨⟨⟨rfl, h1⟩, h2⟩, h3⟩ := hc
    exact .inl ⟨_, _, rfl, h1, h2, h3⟩
  · cases hc

section
variable {nd : Nat → Bool} {nt : Nat} {ι0 : Im} {H0 : Heap} {w0 : World}
section
variable {ι : Im} {H : Heap} {w : World}
theorem ro_lp {b y st : Nat} {tm : List (Nat × V)} {pend : Option (Option Nat)} (h : H.get b = .lp y tm st pend) : ¬ RO H b := fun ⟨l, e⟩ => by rw [h] at e; cases e
theorem putObj_setO {l : Nat} {o : Go.Obj} : w.putObj l o = setO w l o := rfl
/-- The record, set. -/
theorem rnd_put {b y st st' c p z : Nat} {tm : List (Nat × V)} {r : Loop} {pd pend : Option (Option Nat)} (s : Sim L ι H w) (hb : ι b = some (c, p, z)) (hg : H.get b = .lp y tm st pd) (hp : p = 0) (h2 : L.ρ y = some (r.params, r.assign, r.body, r.tmps.size))
    (h5 : ∀ t v, look tm t = some v → ∃ v', r.tmps[t]? = some v' ∧ Rel L ι v v') : Sim L ι (H.put b (.lp y tm st' pend)) (setO w c (.loop { r with state := lpSt st', pending := lpJ pend })) ∧ Ext ι H w ι (H.put b (.lp y tm st' pend)) (setO w c (.loop { r with state := lpSt st', pending := lpJ pend })) :=
  s.setObj hb (by rw [hg]; intro h; cases h) (ro_lp hg) (fun l h => by cases h) ⟨hp, _, rfl, h2, rfl, rfl, h5⟩
end
/-- The statement of a range over a function. -/
theorem range_sound (kk : Linked0 L P) (s0 : Sim L ι0 H0 w0) {f : Opd} {y sh : Nat} {live : List Nat} {g : Operand} {ps : Array Tmp} {asg bd : Code} {Q : Post} {fr : Fr} {H : Heap} {ι : Im} {a : Act} {w : World} (h1 : ckOpd L f g = true) (h2 : L.sh sh = true)
    (hρ : L.ρ y = some (ps, asg, bd, nt)) (s : Sim L ι H w) (x : Ext ι0 H0 w0 ι H w) (hf : FrOk L nt ι fr a) (h : wpC (SC L P nd) (.rangeF f y sh live) Q fr H) : (Code.rangeFunc g ps asg bd).wp P (LQ L nt ι0 H0 w0 Q) a w := by
  simp only [wpC, rngFn] at h
  split at h
  case h_2 => exact h.elim
  rename_i fg first caps e1
  obtain ⟨fs, cs, r1, r2, r3, r4⟩ := opd_rel hf.tm h1 e1
  refine (wpIn_wide (n := 0)).1 (wpIn_rangeFunc fun fn _ => ?_)
  obtain ⟨s1, x1⟩ := s.freshO (o := .dfb) (x := .deferred (some [])) (fun ι' _ => ⟨rfl, rfl⟩)
  obtain ⟨s2, x2⟩ := s1.freshO (o := .lp y (keepL fr.tm live) 0 none) (x := .loop { state := .ready, pending := none, fn := fn, tmps := a.tmps, params := ps, assign := asg, body := bd, defers := w.heap.size }) (fun ι' hle =>
    ⟨rfl, _, rfl, by rw [hρ, hf.size], rfl, rfl, fun t v hv => by
      obtain ⟨v', k1, k2⟩ := hf.tm t v (look_keepL hv)
      exact ⟨v', k1, Rel.mono (x1.le.trans hle) _ _ k2⟩⟩)
  have x12 := x1.trans s s1 x2
  generalize hι1 : upd ι H.next w.heap.size 0 1 = ι1 at s1 x1 s2 x2 x12
  have b1 : ι1 H.next = some (w.heap.size, 0, 1) := by rw [← hι1]; simp [upd]
  generalize hι2 : upd ι1 (H.new .dfb).next (pushO w (.deferred (some []))).heap.size 0 1 = ι2 at s2 x2 x12
  have b2 : ι2 (H.next + 1) = some (w.heap.size + 1, 0, 1) := by rw [← hι2]; simp [upd, Heap.new, pushO]
  have b1' := x2.le _ _ b1
  have hl : RelL L ι2 (first ++ [.yld y (H.next + 1)] ++ caps) (fs ++ #[Value.func (.yield (w.heap.size + 1)) #[] #[]] ++ cs).toList := by
    simp only [Array.toList_append]
    refine ((RelL.mono x12.le _ _ r3).append ?_).append (RelL.mono x12.le _ _ r4)
    exact ⟨_, [], rfl, ⟨_, _, b2, rfl, by rw [hρ]; rfl⟩, rfl⟩
  have hcalls := (h.1 r2 ι2 _ _ s2 hl).1
  refine ⟨w.heap.size + 1, [{ target := .collected w.heap.size, args := #[] }], _, { target := .fn (.func (L.φ fg)) cs, args := fs ++ #[Value.func (.yield (w.heap.size + 1)) #[] #[]] }, _, L.φ fg, _, _, run_enterLoop_outer fn a.tmps ps asg bd, ?_, fun _ _ => trivial, run_callFunc kk r2 _, fun hh => (by cases hh), callsIn_wide.2 (Calls.mono hcalls fun e w3 he => ?_)⟩
  · simp only [resolve, r1, Deferred.ofValue, List.map_toArray, List.map_cons, List.map_nil, show a.eval (.const (.func (.yield (w.heap.size + 1)) #[] #[])) = .func (.yield (w.heap.size + 1)) #[] #[] from rfl]; rfl
  obtain ⟨ι3, H3, s3, x3, hm⟩ := he
  have hfr : FrOk L nt ι3 (fr.mark sh H.next) { a with defers := [{ target := .collected w.heap.size, args := #[] }] ++ a.defers } :=
    ⟨hf.size, hf.tm.mono (x12.le.trans x3.le), .inr ⟨H.next, w.heap.size, 1, a.defers, rfl, x3.le _ _ b1', h2, rfl, hf.ds.mono (x12.le.trans x3.le)⟩⟩
  have x03 := x.trans s0 s (x12.trans s s2 x3)
  cases e with
  | returned v' =>
    obtain ⟨v, _, hq⟩ := hm
    dsimp only at hq
    unfold rngOut at hq
    split at hq
    case h_2 => exact hq.elim
    rename_i y' tm st pend hg
    obtain ⟨rfl, hst, hq⟩ := hq
    have hb3 := x3.le _ _ b2
    have hok := s3.ok _ _ _ _ hb3
    rw [hg] at hok
    obtain ⟨_, r, q1, q2, q3, q4, q5⟩ := hok
    obtain ⟨s4, x4⟩ := rnd_put (st' := 3) (pend := pend) s3 hb3 hg rfl q2 q5
    have hbusy : r.state ≠ .busy := by
      rw [q3]
      unfold lpSt
      split <;> first | (intro h; cases h; done) | exact absurd rfl hst
    have er : ({ r with state := .exhausted } : Loop) = { r with state := lpSt 3, pending := lpJ pend } := by cases r; simp_all [lpSt]
    refine ⟨r.pending, _, run_endLoop q1 hbusy, ?_⟩
    rw [er, q4, putObj_setO]
    have x04 := x03.trans s0 s3 x4
    cases pend with
    | none => exact ⟨ι3, _, _, s4, x04, hfr, hq⟩
    | some j =>
      cases j with
      | none => exact wpIn_ret ⟨ι3, _, _, s4, x04, hfr, hq⟩
      | some id => exact wpIn_exit ⟨ι3, _, _, s4, x04, hfr, hq⟩
  | panicked chain =>
    obtain ⟨v, v', rfl, hv, hq⟩ := hm
    exact ⟨ι3, _, _, s3, x03, hfr, v, v', rfl, hv, hq⟩
  | outgrown => exact hm.elim

theorem code_sound (kk : Linked0 L P) (hm : P.follows .mixedOrders = true) (s0 : Sim L ι0 H0 w0) : ∀ (c : Cd) (c' : Code) (Q : Post) (fr : Fr) (H : Heap) (ι : Im) (a : Act) (w : World), ckCd L P nt c c' = true → rngsOk L nt c c' → Sim L ι H w → Ext ι0 H0 w0 ι H w →
    FrOk L nt ι fr a → wpC (SC L P nd) c Q fr H → c'.wp P (LQ L nt ι0 H0 w0 Q) a w
  | .skip, c', Q, fr, H, ι, a, w, hc, hr, s, x, hf, h => by
    cases c' <;> simp only [ckCd] at hc <;> try cases hc
    · exact wp_skip ⟨ι, fr, H, s, x, hf, h⟩
    · exact wp_label ⟨ι, fr, H, s, x, hf, h⟩
  | .reg false live xs, c', Q, fr, H, ι, a, w, hc, hr, s, x, hf, h => by
    cases c' <;> simp only [ckCd] at hc <;> try cases hc
    rename_i id ops draw
    obtain ⟨hd, hc⟩ := and2 hc
    have hd : false = draw := by simpa using hd
    subst hd
    exact wpIn_wide.1 (wpIn_region_list (F := wF none) (n := 0) (evOps_round (ro := none) kk s0 (K := fun fr H => Q .normal (fr.keep live) H) (X := fun fr v H => Q (.pan v) fr H) (fun fr H h => ⟨live, h⟩) (fun _ _ _ h => h) xs ops.toList fr H ι a w hc (.inl rfl) s x hf h))
  | .reg true live xs, c', Q, fr, H, ι, a, w, hc, hr, s, x, hf, h => by
    cases c' <;> simp only [ckCd] at hc <;> try cases hc
    rename_i id ops draw
    obtain ⟨hd, hc⟩ := and2 hc
    have hd : true = draw := by simpa using hd
    subst hd
    exact draw_sound kk (K := fun fr H => Q .normal (fr.keep live) H) (X := fun fr v H => Q (.pan v) ⟨[], fr.ds⟩ H) hm hc (fun fr H h => ⟨live, h⟩) (fun _ _ _ h => h) s0 s x hf h
  | .seq c d, c', Q, fr, H, ι, a, w, hc, hr, s, x, hf, h => by
    cases c' <;> simp only [ckCd] at hc <;> try cases hc
    simp only [Bool.and_eq_true] at hc
    refine wp_seq (Go.wp_mono (code_sound kk hm s0 c _ _ fr H ι a w hc.1 hr.1 s x hf h) (fun e a' w' he => ?_))
    obtain ⟨ι', fr', H', s', x', hf', hq⟩ := he
    cases e with
    | normal => exact code_sound kk hm s0 d _ Q fr' H' ι' a' w' hc.2 hr.2 s' x' hf' hq
    | exit id => exact ⟨ι', fr', H', s', x', hf', hq⟩
    | goto l => exact ⟨ι', fr', H', s', x', hf', hq⟩
    | ret => exact ⟨ι', fr', H', s', x', hf', hq⟩
    | panic ch => exact ⟨ι', fr', H', s', x', hf', hq⟩
    | outgrown => exact ⟨ι', fr', H', s', x', hf', hq⟩
  | .cond q c d, c', Q, fr, H, ι, a, w, hc, hr, s, x, hf, h => by
    cases c' <;> simp only [ckCd] at hc <;> try cases hc
    simp only [Bool.and_eq_true] at hc
    obtain ⟨⟨h1, h2⟩, h3⟩ := hc
    simp only [wpC] at h
    split at h
    · rename_i b hb
      have hv := opd_rel hf.tm h1 hb
      unfold gif at h
      refine wp_cond_split hv (fun ht => ?_) (fun ht => ?_)
      · subst ht; rw [if_pos rfl] at h; exact code_sound kk hm s0 c _ Q fr H ι a w h2 hr.1 s x hf h
      · subst ht; rw [if_neg (by simp)] at h; exact code_sound kk hm s0 d _ Q fr H ι a w h3 hr.2 s x hf h
    · exact h.elim
  | .block id c, c', Q, fr, H, ι, a, w, hc, hr, s, x, hf, h => by
    cases c' <;> simp only [ckCd] at hc <;> try cases hc
    simp only [Bool.and_eq_true, beq_iff_eq] at hc
    obtain ⟨rfl, hc⟩ := hc
    refine wp_block (Go.wp_mono (code_sound kk hm s0 c _ _ fr H ι a w hc hr s x hf h) (fun e a' w' he => ?_))
    obtain ⟨ι', fr', H', s', x', hf', hq⟩ := he
    cases e with
    | normal => exact ⟨ι', fr', H', s', x', hf', hq⟩
    | exit i =>
      simp only [Exit.inBlock]
      dsimp only at hq
      split
      · rename_i hi; rw [if_pos hi] at hq; exact ⟨ι', fr', H', s', x', hf', hq⟩
      · rename_i hi; rw [if_neg hi] at hq; exact ⟨ι', fr', H', s', x', hf', hq⟩
    | goto l => exact ⟨ι', fr', H', s', x', hf', hq⟩
    | ret => exact ⟨ι', fr', H', s', x', hf', hq⟩
    | panic ch => exact ⟨ι', fr', H', s', x', hf', hq⟩
    | outgrown => exact ⟨ι', fr', H', s', x', hf', hq⟩
  | .loop live c, c', Q, fr, H, ι, a, w, hc, hr, s, x, hf, h => by
    cases c' <;> simp only [ckCd] at hc <;> try cases hc
    rename_i c'
    refine wp_of_loopW ?_
    have key : ∀ fr H, wpC (SC L P nd) c (fun e fr' H' => match e with
        | .normal => ∀ ι a w, Sim L ι H' w → Ext ι0 H0 w0 ι H' w → FrOk L nt ι fr' a → LoopW P c' (LQ L nt ι0 H0 w0 Q) a w
        | e => Q e fr' H') (fr.keep live) H → ∀ ι a w, Sim L ι H w → Ext ι0 H0 w0 ι H w → FrOk L nt ι fr a → LoopW P c' (LQ L nt ι0 H0 w0 Q) a w := by
      intro fr H h ι a w s x hf
      refine loopW_round (Go.wp_mono (code_sound kk hm s0 c c' _ (fr.keep live) H ι a w hc hr s x (hf.keep live) h) (fun e a' w' he => ?_))
      obtain ⟨ι', fr', H', s', x', hf', hq⟩ := he
      cases e with
      | normal => exact hq ι' a' w' s' x' hf'
      | exit id => exact ⟨ι', fr', H', s', x', hf', hq⟩
      | goto l => exact ⟨ι', fr', H', s', x', hf', hq⟩
      | ret => exact ⟨ι', fr', H', s', x', hf', hq⟩
      | panic ch => exact ⟨ι', fr', H', s', x', hf', hq⟩
      | outgrown => exact ⟨ι', fr', H', s', x', hf', hq⟩
    exact h (fun fr H => ∀ ι a w, Sim L ι H w → Ext ι0 H0 w0 ι H w → FrOk L nt ι fr a → LoopW P c' (LQ L nt ι0 H0 w0 Q) a w) key ι a w s x hf
  | .exit id, c', Q, fr, H, ι, a, w, hc, hr, s, x, hf, h => by
    cases c' <;> simp only [ckCd] at hc <;> try cases hc
    simp only [beq_iff_eq] at hc
    subst hc
    exact wp_exit ⟨ι, fr, H, s, x, hf, h⟩
  | .ret, c', Q, fr, H, ι, a, w, hc, hr, s, x, hf, h => by
    cases c' <;> simp only [ckCd] at hc <;> try cases hc
    exact Go.wp_ret ⟨ι, fr, H, s, x, hf, h⟩
  | .scope c, c', Q, fr, H, ι, a, w, hc, hr, s, x, hf, h => by
    cases c' <;> simp only [ckCd] at hc <;> try cases hc
    refine wp_scope_straight (Go.wp_mono (code_sound kk hm s0 c _ _ fr H ι a w hc hr s x hf h) (fun e a' w' he => ?_))
    obtain ⟨ι', fr', H', s', x', hf', hq⟩ := he
    cases e with
    | goto l => exact hq.elim
    | normal => exact ⟨ι', fr', H', s', x', hf', hq⟩
    | exit id => exact ⟨ι', fr', H', s', x', hf', hq⟩
    | ret => exact ⟨ι', fr', H', s', x', hf', hq⟩
    | panic ch => exact ⟨ι', fr', H', s', x', hf', hq⟩
    | outgrown => exact ⟨ι', fr', H', s', x', hf', hq⟩
  | .gscope c l live d, c', Q, fr, H, ι, a, w, hc, hr, s, x, hf, h => by
    have hr : noRng c = true ∧ noRng d = true := by cases c' <;> exact hr
    have key : ∀ (S d2 : Code), findLabel S l = some (.seq .skip d2) → ckCd L P nt d d2 = true → ∀ fr H, wpC (SC L P nd) d (jmp l (fun fr' H' => ∀ ι a w, Sim L ι H' w → Ext ι0 H0 w0 ι H' w → FrOk L nt ι fr' a → ScopeW P S d2 (LQ L nt ι0 H0 w0 Q) a w) Q) (fr.keep live) H →
        ∀ ι a w, Sim L ι H w → Ext ι0 H0 w0 ι H w → FrOk L nt ι fr a → ScopeW P S d2 (LQ L nt ι0 H0 w0 Q) a w := by
      intro S d2 hfl h2 fr H h ι a w s x hf
      refine scopeW_pass hfl (Go.wp_mono (code_sound kk hm s0 d d2 _ (fr.keep live) H ι a w h2 (rngsOk_of hr.2) s x (hf.keep live) h) (fun e a' w' he => ?_))
      obtain ⟨ι', fr', H', s', x', hf', hq⟩ := he
      cases e with
      | goto l' => exact ⟨hq.1, hq.2 ι' a' w' s' x' hf'⟩
      | normal => exact ⟨ι', fr', H', s', x', hf', hq⟩
      | exit id => exact ⟨ι', fr', H', s', x', hf', hq⟩
      | ret => exact ⟨ι', fr', H', s', x', hf', hq⟩
      | panic ch => exact ⟨ι', fr', H', s', x', hf', hq⟩
      | outgrown => exact ⟨ι', fr', H', s', x', hf', hq⟩
    rcases ckG hc with ⟨c2, d2, rfl, hl, h1, h2⟩ | ⟨d2, rfl, rfl, h2⟩
    case inr => exact wp_scope_lbl0 (h _ (key _ d2 (by simp [findLabel]) h2) ι a w s x hf)
    have hfl : findLabel (.seq c2 (.seq (.label l) d2)) l = some (.seq .skip d2) := by
      simp only [findLabel]
      cases hk : findLabel c2 l with
      | none => simp
      | some r => rw [hk] at hl; cases hl
    refine wp_scope_lbl (Go.wp_mono (code_sound kk hm s0 c c2 _ fr H ι a w h1 (rngsOk_of hr.1) s x hf h) (fun e a' w' he => ?_))
    obtain ⟨ι', fr', H', s', x', hf', hq⟩ := he
    cases e with
    | normal => exact hq _ (key _ d2 hfl h2) ι' a' w' s' x' hf'
    | goto l => exact hq.elim
    | exit id => exact ⟨ι', fr', H', s', x', hf', hq⟩
    | ret => exact ⟨ι', fr', H', s', x', hf', hq⟩
    | panic ch => exact ⟨ι', fr', H', s', x', hf', hq⟩
    | outgrown => exact ⟨ι', fr', H', s', x', hf', hq⟩
  | .goto l, c', Q, fr, H, ι, a, w, hc, hr, s, x, hf, h => by
    cases c' <;> simp only [ckCd] at hc <;> try cases hc
    simp only [beq_iff_eq] at hc
    subst hc
    exact wp_goto ⟨ι, fr, H, s, x, hf, h⟩
  | .recov _ _, c', Q, fr, H, ι, a, w, hc, hr, s, x, hf, h => h.elim
  | .rnd _ _ _ _, c', Q, fr, H, ι, a, w, hc, hr, s, x, hf, h => by cases c' <;> simp [ckCd] at hc
  | .shut, c', Q, fr, H, ι, a, w, hc, hr, s, x, hf, h => by cases c' <;> simp [ckCd] at hc
  | .orc, c', Q, fr, H, ι, a, w, hc, hr, s, x, hf, h => by cases c' <;> simp [ckCd] at hc
  | .rangeF f y sh live, c', Q, fr, H, ι, a, w, hc, hr, s, x, hf, h => by
    cases c' <;> simp only [ckCd] at hc <;> try cases hc
    rename_i g ps asg bd
    obtain ⟨h1, h2⟩ := and2 hc
    exact range_sound kk s0 h1 h2 hr s x hf h

def isRecov (o : Oper) (d nt : Nat) : Bool :=
  o.dst == some d && decide (d < nt) && o.guard.isNone && (match o.op with | .call c => (match c.callee with | .builtin .recover => c.args.size == 0 | _ => false) | _ => false)

def ckRec (L : Lk) (P : Program) (nt d : Nat) : Cd → Code → Bool
  | .seq a b, .seq a' b' => ckRec L P nt d a a' && (ckCd L P nt b b' && noRng b)
  | .reg false _ xs, .region _ ops false => (match ops.toList with | o :: os => isRecov o d nt && ckSeq L P nt ops false xs os | [] => false)
  | _, _ => false

theorem recov_run {o : Oper} {d nt : Nat} (h : isRecov o d nt = true) (a : Act) (w : World) : o.dst = some d ∧ d < nt ∧ o.guard = none ∧ (execOp a.eval o).run P w = .ok .recover w := by
  obtain ⟨od, oo, ty, pos, af, og⟩ := o
  simp only [isRecov, Bool.and_eq_true, beq_iff_eq, decide_eq_true_eq, Option.isNone_iff_eq_none] at h
  obtain ⟨⟨⟨rfl, h2⟩, rfl⟩, h4⟩ := h
  refine ⟨rfl, h2, rfl, ?_⟩
  split at h4
  · rename_i c
    obtain ⟨callee, args, argTypes⟩ := c
    dsimp only at h4
    split at h4
    · simp only [execOp, resolve, Sem.run_bind, Sem.run_pure, Result.andThen_ok, invoke, builtin]
    · cases h4
  · cases h4

theorem rec_region {id : Nat} {ops : Array Oper} {o : Oper} {os : List Oper} (hops : ops.toList = o :: os) {d : Nat} (ho : isRecov o d nt = true) {Q : Exit → Act → World → Prop} {a : Act} {w : World} {cs cs2 : List Frame} {x : Value}
    (hrec : recoverD cs = some (x, cs2) ∨ (recoverD cs = none ∧ x = .nilIface ∧ cs2 = cs)) (h : wpList P ops Q os (a.put (some d) x) w) : (Code.region id ops false).wpS P (fun e a' cs' w' => cs' = cs2 ∧ Q e a' w') a cs w := by
  intro b k hb hro
  obtain ⟨h1, _, h2, h3⟩ := recov_run (P := P) ho a w
  have hsz : ops.size = os.length + 1 := by rw [← Array.length_toList, hops]; rfl
  have h0 : ops[0]? = some o := by rw [← Array.getElem?_toList, hops]; rfl
  have hr : List.range ops.size = 0 :: List.range' 1 os.length := by rw [hsz, List.range_eq_range', List.range'_succ]
  have heq := wpOps_eq_wpList (P := P) (ops := ops) (Q := Q) os 1 (fun j => by rw [← Array.getElem?_toList, hops, Nat.add_comm 1 j, List.getElem?_cons_succ])
  rw [← heq] at h
  obtain ⟨e, a', w', hq, harr⟩ := wp_ops _ _ _ h b k cs2
  have hs1 := step_region (P := P) (b := b) (a := a) (k := k) (cs := cs) (w := w) (id := id) (ops := ops)
  rw [hr] at hs1
  have hw : Region.wanted o (yielded ops a.tmps) = true := wanted_none h2 _
  have hg := stepG_op (P := P) (b := b) (k := k) (cs := cs) (w := w) (rest := List.range' 1 os.length) h0 hw
  have hfin : ∀ v, (b.at a (.inRegion ops (0 :: List.range' 1 os.length) :: k)).finish v = b.at (a.put (some d) v) (.inRegion ops (List.range' 1 os.length) :: k) := by
    intro v; rw [Frame.finish_at, h0, Option.bind_some, h1]
  have hk : (b.at a (.inRegion ops (0 :: List.range' 1 os.length) :: k)).kind = .deferred := hb
  have htr := tryRecover_deferred hk cs
  refine ⟨e, a', cs2, w', ⟨rfl, hq⟩, .of_steps (.head hs1 (.one (step_lone_go ?_))) harr⟩
  rw [hg, ← hfin]
  simp only [Frame.at] at htr ⊢
  rcases hrec with hrec | ⟨hrec, rfl, rfl⟩
  · simp [stepG.apply, h3, htr, hrec]
  · simp [stepG.apply, h3, htr, hrec]

theorem rec_sound (kk : Linked0 L P) (hm : P.follows .mixedOrders = true) (s0 : Sim L ι0 H0 w0) {d : Nat} {x : V} {x' : Value} {cs cs2 : List Frame} (hrec : recoverD cs = some (x', cs2) ∨ (recoverD cs = none ∧ x' = .nilIface ∧ cs2 = cs)) :
    ∀ (c : Cd) (c' : Code) (Q : Post) (fr : Fr) (H : Heap) (ι : Im) (a : Act) (w : World), ckRec L P nt d c c' = true → Sim L ι H w → Ext ι0 H0 w0 ι H w → FrOk L nt ι fr a → Rel L ι x x' → wpC (SC L P nd) c Q (fr.put (some d) x) H →
      c'.wpS P (fun e a' cs' w' => cs' = cs2 ∧ LQ L nt ι0 H0 w0 Q e a' w') a cs w
  | .seq c e, c', Q, fr, H, ι, a, w, hc, s, xx, hf, hx, h => by
    cases c' <;> simp only [ckRec] at hc <;> try cases hc
    rename_i c' e'
    simp only [Bool.and_eq_true] at hc
    refine wpS_seq ?_
    intro b k hb hr
    obtain ⟨ee, a', cs', w', ⟨rfl, ι', fr', H', s', x', hf', hq⟩, harr⟩ := rec_sound kk hm s0 hrec c c' _ fr H ι a w hc.1 s xx hf hx h b k hb hr
    refine ⟨ee, a', cs', w', ?_, harr⟩
    cases ee with
    | normal => exact wpS_of_wp (Go.wp_mono (code_sound kk hm s0 e e' Q fr' H' ι' a' w' hc.2.1 (rngsOk_of hc.2.2) s' x' hf' hq) (fun _ _ _ h => ⟨rfl, h⟩))
    | exit id => exact ⟨rfl, ι', fr', H', s', x', hf', hq⟩
    | goto l => exact ⟨rfl, ι', fr', H', s', x', hf', hq⟩
    | ret => exact ⟨rfl, ι', fr', H', s', x', hf', hq⟩
    | panic ch => exact ⟨rfl, ι', fr', H', s', x', hf', hq⟩
    | outgrown => exact ⟨rfl, ι', fr', H', s', x', hf', hq⟩
  | .reg false live xs, c', Q, fr, H, ι, a, w, hc, s, xx, hf, hx, h => by
    cases c' <;> try (simp [ckRec] at hc; done)
    rename_i id ops draw
    cases draw <;> try (simp [ckRec] at hc; done)
    simp only [ckRec] at hc
    split at hc
    · rename_i o os hops
      obtain ⟨h1, h2⟩ := and2 hc
      obtain ⟨_, hlt, _⟩ := recov_run (P := P) h1 a w
      exact rec_region hops h1 hrec (evOps_sound kk s0 (K := fun fr H => Q .normal (fr.keep live) H) (X := fun fr v H => Q (.pan v) fr H) (fun fr H h => ⟨live, h⟩) (fun _ _ _ h => h) xs os _ H ι _ w h2 s xx (hf.put (fun t e => by cases e; exact hlt) hx) h)
    · cases hc
  | .skip, _, _, _, _, _, _, _, hc, _, _, _, _, _ => by simp [ckRec] at hc
  | .reg true _ _, _, _, _, _, _, _, _, hc, _, _, _, _, _ => by simp [ckRec] at hc
  | .cond _ _ _, _, _, _, _, _, _, _, hc, _, _, _, _, _ => by simp [ckRec] at hc
  | .block _ _, _, _, _, _, _, _, _, hc, _, _, _, _, _ => by simp [ckRec] at hc
  | .loop _ _, _, _, _, _, _, _, _, hc, _, _, _, _, _ => by simp [ckRec] at hc
  | .exit _, _, _, _, _, _, _, _, hc, _, _, _, _, _ => by simp [ckRec] at hc
  | .ret, _, _, _, _, _, _, _, hc, _, _, _, _, _ => by simp [ckRec] at hc
  | .scope _, _, _, _, _, _, _, _, hc, _, _, _, _, _ => by simp [ckRec] at hc
  | .gscope _ _ _ _, _, _, _, _, _, _, _, hc, _, _, _, _, _ => by simp [ckRec] at hc
  | .goto _, _, _, _, _, _, _, _, hc, _, _, _, _, _ => by simp [ckRec] at hc
  | .recov _ _, _, _, _, _, _, _, _, hc, _, _, _, _, _ => by simp [ckRec] at hc
  | .rnd _ _ _ _, _, _, _, _, _, _, _, hc, _, _, _, _, _ => by simp [ckRec] at hc
  | .rangeF _ _ _ _, _, _, _, _, _, _, _, hc, _, _, _, _, _ => by simp [ckRec] at hc
  | .shut, _, _, _, _, _, _, _, hc, _, _, _, _, _ => by simp [ckRec] at hc
  | .orc, _, _, _, _, _, _, _, hc, _, _, _, _, _ => by simp [ckRec] at hc
end
/-- Code that a round may bear: no deferred calls, no scopes, no loops over functions. -/
def rdOk : Code → Bool
  | .skip => true
  | .label _ => true
  | .region _ ops _ => ops.toList.all noDefer
  | .seq a b => rdOk a && rdOk b
  | .cond _ a b => rdOk a && rdOk b
  | .block _ c => rdOk c
  | .loop c => rdOk c
  | .exit _ => true
  | .ret => true
  | _ => false
def LoopR (ro : Option Nat) (P : Program) (c : Code) (Q : Exit → Act → World → Prop) (a : Act) (w : World) : Prop :=
  ∀ (b : Frame) (k : List Item) (cs : List Frame), b.roundOf = ro → ∃ e a' w', Q e a' w' ∧ ArrivesIn (Machine.fenced P (wF ro)) P (lone (b.atR a (.code c :: .inLoop c :: k)) cs w) b k cs e a' w'
theorem wide_ok {ro : Option Nat} (m : Machine) : m.fenced P (wF ro) := fenced_wide P m
theorem wp_of_loopR {ro : Option Nat} {c : Code} {Q : Exit → Act → World → Prop} {a : Act} {w : World} (h : LoopR ro P c Q a w) : (Code.loop c).wpIn (wF ro) 0 P Q a w := fun b k cs hro _ _ =>
  let ⟨e, a', w', hq, harr⟩ := h b k cs hro
  ⟨e, a', w', hq, .of_steps (.one (wide_ok _) stepR_loop) harr⟩
theorem loopR_round {ro : Option Nat} {c : Code} {Q : Exit → Act → World → Prop} {a : Act} {w : World} (h : c.wpIn (wF ro) 0 P (Exit.then (LoopR ro P c Q) Q) a w) : LoopR ro P c Q a w := by
  intro b k cs hro
  obtain ⟨e, a₁, w₁, hq, harr⟩ := h b (.inLoop c :: k) cs hro trivial (room_wide _)
  cases e with
  | normal =>
    obtain ⟨e₂, a₂, w₂, hq₂, harr₂⟩ := hq b k cs hro
    exact ⟨e₂, a₂, w₂, hq₂, .of_steps (StepsIn.trans harr (.one (wide_ok _) stepR_inLoop)) harr₂⟩
  | exit id => exact ⟨_, a₁, w₁, hq, .pass (x := .inLoop c) rfl (fun _ _ => .inl (by simp)) harr⟩
  | goto l => exact ⟨_, a₁, w₁, hq, .pass (x := .inLoop c) rfl (fun _ _ => .inl (by simp)) harr⟩
  | ret => exact ⟨_, a₁, w₁, hq, .pass (x := .inLoop c) rfl (fun _ _ => .inl (by simp)) harr⟩
  | panic ch => exact ⟨_, a₁, w₁, hq, .pass (x := .inLoop c) rfl (fun _ _ => .inl (by simp)) harr⟩
  | outgrown => exact ⟨_, a₁, w₁, hq, .pass (x := .inLoop c) rfl (fun _ _ => .inl (by simp)) harr⟩

section
variable {nd : Nat → Bool} {nt : Nat} {ι0 : Im} {H0 : Heap} {w0 : World}
theorem draw_round {ops : Array Oper} {K : Fr → Heap → Prop} {X : Fr → V → Heap → Prop} {ι : Im} {H : Heap} {w : World} {fr : Fr} {a : Act} {ro : Option Nat} (ho : ops.toList.all noDefer = true) (kk : Linked0 L P) {Q : Post} {id : Nat} {xs : List AOper} (hm : P.follows .mixedOrders = true) (hc : ckDraw L P nt ops xs = true) (hK : ∀ fr H, K fr H → ∃ l, Q .normal (fr.keep l) H)
    (hX : ∀ fr v H, X fr v H → Q (.pan v) ⟨[], fr.ds⟩ H) (s0 : Sim L ι0 H0 w0) (s : Sim L ι H w) (x : Ext ι0 H0 w0 ι H w) (hf : FrOk L nt ι fr a) (h : evD (SC L P nd) X K [] xs fr H) :
    (Code.region id ops true).wpIn (wF ro) 0 P (LQ L nt ι0 H0 w0 Q) a w := by
  simp only [ckDraw, Bool.and_eq_true, beq_iff_eq] at hc
  obtain ⟨⟨hlen, hcov⟩, hck⟩ := hc
  refine wpIn_region_any hm (any_round lq_out ho _ _ _ _ ?_)
  have sD : Sim L ι H { w with drawn := w.drawn + 1 } := ⟨s.dn, s.nx, s.lt, s.ok, s.inj⟩
  have xD : Ext ι0 H0 w0 ι H { w with drawn := w.drawn + 1 } := ⟨x.le, x.hs, x.hn, x.ro, x.new, x.kept, x.dom, x.os, x.tape, x.output⟩
  refine draw_main kk hK hX ops.size _ [] [] none xs [] fr fr H ι _ a _ (by simp [hlen]) rfl {
    ck := hck, tab_ := (fun i l hil => by cases hil), topo := trivial, opers := (fun y hy => by cases hy), dix := (fun y hy => by cases hy), dsts := (fun y hy => by cases hy), conf := (fun y hy => by cases hy),
    cover := fun j hj => ?_, clix := fun y hy => ?_, lsize := by simp, closed := fun j o ho hl => ?_, ldone := (fun y hy => by cases hy), lpend := (fun p hp => by cases hp), lcl := fun y hy => ?_,
    pdone := (fun p hp => by cases hp), plate := (fun p hp => by cases hp), pnodup := by simp, pb := (fun p hp => by cases hp), pval := (fun p hp => by cases hp), noself := (fun p hp => by cases hp),
    p6a := (fun p hp => by cases hp), p6b := (fun p hp => by cases hp), p9 := (fun p hp => by cases hp), f7a := fun _ _ => rfl, f7b := (fun p hp => by cases hp), fds := rfl, run := h, sim0 := s0, sim := sD, ext := xD, ok := hf }
  · rw [List.all_eq_true] at hcov
    have := hcov j (List.mem_range.2 hj)
    simp only [List.any_eq_true, beq_iff_eq] at this
    exact .inr this
  · -- each index is one of the region's
    have all : ∀ (r : List AOper) {tab : List (Nat × Msk)} {done : List AOper} {last : Option Nat}, (∀ i l, (i, l) ∈ tab → ∀ k ∈ l, Anc ops k i) → ckD L P nt ops tab done last r = true → ∀ x ∈ r, x.ix < ops.size := by
      intro r
      induction r with
      | nil => intro _ _ _ _ _ x hx; cases hx
      | cons z r ih =>
        intro tab done last ht hk x hx
        obtain ⟨o, c⟩ := ckD_step ht hk
        rcases List.mem_cons.1 hx with rfl | hx
        · exact (Array.getElem?_eq_some_iff.1 c.at_).1
        · exact ih c.tab_ c.rest x hx
    exact all xs (fun i l hil => by cases hil) hck y hy
  · rw [getD_replicate] at hl; cases hl
  · exact getD_replicate _ _

/-- **Code, in a round's frame or in a function's.** -/
theorem code_round {ro : Option Nat} (kk : Linked0 L P) (hm : P.follows .mixedOrders = true) (s0 : Sim L ι0 H0 w0) : ∀ (c : Cd) (c' : Code) (Q : Post) (fr : Fr) (H : Heap) (ι : Im) (a : Act) (w : World), ckCd L P nt c c' = true → rdOk c' = true → Sim L ι H w → Ext ι0 H0 w0 ι H w →
    FrOk L nt ι fr a → wpC (SC L P nd) c Q fr H → c'.wpIn (wF ro) 0 P (LQ L nt ι0 H0 w0 Q) a w
  | .skip, c', Q, fr, H, ι, a, w, hc, ho, s, x, hf, h => by
    cases c' <;> simp only [ckCd] at hc <;> try cases hc
    · exact wpIn_skip ⟨ι, fr, H, s, x, hf, h⟩
    · exact wpIn_label ⟨ι, fr, H, s, x, hf, h⟩
  | .reg false live xs, c', Q, fr, H, ι, a, w, hc, ho, s, x, hf, h => by
    cases c' <;> simp only [ckCd] at hc <;> try cases hc
    rename_i id ops draw
    obtain ⟨hd, hc⟩ := and2 hc
    have hd : false = draw := by simpa using hd
    subst hd
    exact wpIn_region_list (evOps_round kk s0 (K := fun fr H => Q .normal (fr.keep live) H) (X := fun fr v H => Q (.pan v) fr H) (fun fr H h => ⟨live, h⟩) (fun _ _ _ h => h) xs ops.toList fr H ι a w hc (.inr ho) s x hf h)
  | .reg true live xs, c', Q, fr, H, ι, a, w, hc, ho, s, x, hf, h => by
    cases c' <;> simp only [ckCd] at hc <;> try cases hc
    rename_i id ops draw
    obtain ⟨hd, hc⟩ := and2 hc
    have hd : true = draw := by simpa using hd
    subst hd
    exact draw_round ho kk (K := fun fr H => Q .normal (fr.keep live) H) (X := fun fr v H => Q (.pan v) ⟨[], fr.ds⟩ H) hm hc (fun fr H h => ⟨live, h⟩) (fun _ _ _ h => h) s0 s x hf h
  | .seq c d, c', Q, fr, H, ι, a, w, hc, ho, s, x, hf, h => by
    cases c' <;> simp only [ckCd] at hc <;> try cases hc
    simp only [Bool.and_eq_true] at hc
    refine wpIn_seq (wpIn_mono (code_round kk hm s0 c _ _ fr H ι a w hc.1 (by simp only [rdOk, Bool.and_eq_true] at ho; exact ho.1) s x hf h) (fun e a' w' he => ?_))
    obtain ⟨ι', fr', H', s', x', hf', hq⟩ := he
    cases e with
    | normal => exact code_round kk hm s0 d _ Q fr' H' ι' a' w' hc.2 (by simp only [rdOk, Bool.and_eq_true] at ho; exact ho.2) s' x' hf' hq
    | exit id => exact ⟨ι', fr', H', s', x', hf', hq⟩
    | goto l => exact ⟨ι', fr', H', s', x', hf', hq⟩
    | ret => exact ⟨ι', fr', H', s', x', hf', hq⟩
    | panic ch => exact ⟨ι', fr', H', s', x', hf', hq⟩
    | outgrown => exact ⟨ι', fr', H', s', x', hf', hq⟩
  | .cond q c d, c', Q, fr, H, ι, a, w, hc, ho, s, x, hf, h => by
    cases c' <;> simp only [ckCd] at hc <;> try cases hc
    simp only [Bool.and_eq_true] at hc
    obtain ⟨⟨h1, h2⟩, h3⟩ := hc
    simp only [wpC] at h
    split at h
    · rename_i b hb
      have hv := opd_rel hf.tm h1 hb
      unfold gif at h
      refine wpIn_cond_split hv (fun ht => ?_) (fun ht => ?_)
      · subst ht; rw [if_pos rfl] at h; exact code_round kk hm s0 c _ Q fr H ι a w h2 (by simp only [rdOk, Bool.and_eq_true] at ho; exact ho.1) s x hf h
      · subst ht; rw [if_neg (by simp)] at h; exact code_round kk hm s0 d _ Q fr H ι a w h3 (by simp only [rdOk, Bool.and_eq_true] at ho; exact ho.2) s x hf h
    · exact h.elim
  | .block id c, c', Q, fr, H, ι, a, w, hc, ho, s, x, hf, h => by
    cases c' <;> simp only [ckCd] at hc <;> try cases hc
    simp only [Bool.and_eq_true, beq_iff_eq] at hc
    obtain ⟨rfl, hc⟩ := hc
    refine wpIn_block (wpIn_mono (code_round kk hm s0 c _ _ fr H ι a w hc ho s x hf h) (fun e a' w' he => ?_))
    obtain ⟨ι', fr', H', s', x', hf', hq⟩ := he
    cases e with
    | normal => exact ⟨ι', fr', H', s', x', hf', hq⟩
    | exit i =>
      simp only [Exit.inBlock]
      dsimp only at hq
      split
      · rename_i hi; rw [if_pos hi] at hq; exact ⟨ι', fr', H', s', x', hf', hq⟩
      · rename_i hi; rw [if_neg hi] at hq; exact ⟨ι', fr', H', s', x', hf', hq⟩
    | goto l => exact ⟨ι', fr', H', s', x', hf', hq⟩
    | ret => exact ⟨ι', fr', H', s', x', hf', hq⟩
    | panic ch => exact ⟨ι', fr', H', s', x', hf', hq⟩
    | outgrown => exact ⟨ι', fr', H', s', x', hf', hq⟩
  | .loop live c, c', Q, fr, H, ι, a, w, hc, ho, s, x, hf, h => by
    cases c' <;> simp only [ckCd] at hc <;> try cases hc
    rename_i c'
    refine wp_of_loopR ?_
    have key : ∀ fr H, wpC (SC L P nd) c (fun e fr' H' => match e with
        | .normal => ∀ ι a w, Sim L ι H' w → Ext ι0 H0 w0 ι H' w → FrOk L nt ι fr' a → LoopR ro P c' (LQ L nt ι0 H0 w0 Q) a w
        | e => Q e fr' H') (fr.keep live) H → ∀ ι a w, Sim L ι H w → Ext ι0 H0 w0 ι H w → FrOk L nt ι fr a → LoopR ro P c' (LQ L nt ι0 H0 w0 Q) a w := by
      intro fr H h ι a w s x hf
      refine loopR_round (wpIn_mono (code_round kk hm s0 c c' _ (fr.keep live) H ι a w hc ho s x (hf.keep live) h) (fun e a' w' he => ?_))
      obtain ⟨ι', fr', H', s', x', hf', hq⟩ := he
      cases e with
      | normal => exact hq ι' a' w' s' x' hf'
      | exit id => exact ⟨ι', fr', H', s', x', hf', hq⟩
      | goto l => exact ⟨ι', fr', H', s', x', hf', hq⟩
      | ret => exact ⟨ι', fr', H', s', x', hf', hq⟩
      | panic ch => exact ⟨ι', fr', H', s', x', hf', hq⟩
      | outgrown => exact ⟨ι', fr', H', s', x', hf', hq⟩
    exact h (fun fr H => ∀ ι a w, Sim L ι H w → Ext ι0 H0 w0 ι H w → FrOk L nt ι fr a → LoopR ro P c' (LQ L nt ι0 H0 w0 Q) a w) key ι a w s x hf
  | .exit id, c', Q, fr, H, ι, a, w, hc, ho, s, x, hf, h => by
    cases c' <;> simp only [ckCd] at hc <;> try cases hc
    simp only [beq_iff_eq] at hc
    subst hc
    exact wpIn_exit ⟨ι, fr, H, s, x, hf, h⟩
  | .ret, c', Q, fr, H, ι, a, w, hc, ho, s, x, hf, h => by
    cases c' <;> simp only [ckCd] at hc <;> try cases hc
    exact wpIn_ret ⟨ι, fr, H, s, x, hf, h⟩
  | .scope c, c', Q, fr, H, ι, a, w, hc, ho, s, x, hf, h => by
    cases c' <;> simp only [ckCd] at hc <;> try cases hc
    cases ho
  | .gscope c l live d, c', Q, fr, H, ι, a, w, hc, ho, s, x, hf, h => by
    cases c' <;> try (simp [ckCd] at hc; done)
    cases ho
  | .goto l, c', Q, fr, H, ι, a, w, hc, ho, s, x, hf, h => by
    cases c' <;> simp only [ckCd] at hc <;> try cases hc
    cases ho
  | .recov _ _, c', Q, fr, H, ι, a, w, hc, ho, s, x, hf, h => h.elim
  | .rnd _ _ _ _, c', Q, fr, H, ι, a, w, hc, ho, s, x, hf, h => by cases c' <;> simp [ckCd] at hc
  | .shut, c', Q, fr, H, ι, a, w, hc, ho, s, x, hf, h => by cases c' <;> simp [ckCd] at hc
  | .orc, c', Q, fr, H, ι, a, w, hc, ho, s, x, hf, h => by cases c' <;> simp [ckCd] at hc
  | .rangeF _ _ _ _, c', Q, fr, H, ι, a, w, hc, ho, s, x, hf, h => by
    cases c' <;> simp only [ckCd] at hc <;> try cases hc
    cases ho

end
section
variable {nd : Nat → Bool} {nt : Nat} {ι : Im} {H : Heap} {w : World}
theorem lay_rel {fr : Fr} : ∀ (ps : List Nat) (as : List V) (vs : List Value) (i : Nat) (tm : List (Nat × V)) (tmps : Array Value), RelL L ι as vs → as.length = ps.length → (∀ (j : Nat) (v : V), as[j]? = some v → fr.get (i + j) = some v) → (∀ p ∈ ps, p < tmps.size) →
    (∀ t v, look tm t = some v → ∃ v', tmps[t]? = some v' ∧ Rel L ι v v') →
    (∀ t v, look (layT fr ps i tm) t = some v → ∃ v', ((ps.zip vs).foldl (fun (x : Array Value) (p : Nat × Value) => x.setIfInBounds p.1 p.2) tmps)[t]? = some v' ∧ Rel L ι v v') ∧ ((ps.zip vs).foldl (fun (x : Array Value) (p : Nat × Value) => x.setIfInBounds p.1 p.2) tmps).size = tmps.size
  | [], _, _, i, tm, tmps, _, _, _, _, h => ⟨by simpa [layT] using h, rfl⟩
  | p :: ps, [], _, i, tm, tmps, _, hl, _, _, _ => by simp at hl
  | p :: ps, a :: as, vs, i, tm, tmps, hr, hl, hg, hp, h => by
    obtain ⟨v, s, rfl, h1, h2⟩ := hr
    have ga : fr.get i = some a := by simpa using hg 0 a rfl
    have ih := lay_rel (fr := fr) ps as s (i + 1) ((p, a) :: tm) (tmps.setIfInBounds p v) h2 (by simpa using hl) (fun j u hj => by rw [Nat.add_assoc, Nat.add_comm 1 j]; exact hg (j + 1) u (by simpa using hj)) (fun q hq => by simpa using hp q (List.mem_cons_of_mem _ hq)) (fun t u ht => by
      simp only [look] at ht
      rw [Array.getElem?_setIfInBounds]
      by_cases e : p = t
      · subst e
        rw [if_pos rfl] at ht
        cases ht
        exact ⟨v, by rw [if_pos rfl, if_pos (hp p List.mem_cons_self)], h1⟩
      · rw [if_neg e] at ht
        rw [if_neg e]
        exact h t u ht)
    simp only [layT, ga, Option.getD_some, List.zip_cons_cons, List.foldl_cons]
    exact ⟨ih.1, by rw [ih.2]; simp⟩

/-- The record at hand. -/
theorem rnd_at {b y st c p z : Nat} {K : List (Nat × V) → Prop} (s : Sim L ι H w) (hb : ι b = some (c, p, z)) (h : rndAt H b y st K) : ∃ tm r, H.get b = .lp y tm st none ∧ K tm ∧ p = 0 ∧ w.heap[c]? = some (.loop r) ∧ L.ρ y = some (r.params, r.assign, r.body, r.tmps.size) ∧
    r.state = lpSt st ∧ r.pending = none ∧ ∀ t v, look tm t = some v → ∃ v', r.tmps[t]? = some v' ∧ Rel L ι v v' := by
  unfold rndAt at h
  split at h
  · rename_i y' tm st' hg
    obtain ⟨rfl, rfl, hk⟩ := h
    have := s.ok b c p z hb
    rw [hg] at this
    obtain ⟨h0, r, h1, h2, h3, h4, h5⟩ := this
    exact ⟨tm, r, hg, hk, h0, h1, h2, h3, h4, h5⟩
  · exact h.elim
/-- **A round.** -/
theorem rnd_sound (kk : Linked0 L P) (hm : P.follows .mixedOrders = true) {y : Nat} {ps : List Nat} {asg bd : Cd} {ps' : Array Tmp} {asg' bd' : Code} (hρ : L.ρ y = some (ps', asg', bd', nt)) (hps : ps'.toList = ps) (hlt : ∀ p ∈ ps, p < nt)
    (c1 : ckCd L P nt asg asg' = true) (c2 : ckCd L P nt bd bd' = true) (o1 : rdOk asg' = true) (o2 : rdOk bd' = true) {as : List V} {vals : Array Value} (hlen : as.length = ps.length) {b c z : Nat} (s : Sim L ι H w) (hb : ι b = some (c, 0, z))
    (hv : RelL L ι as vals.toList) {Q : Post} (h : wpC (SC L P nd) (.rnd y ps asg bd) Q ⟨frame0 0 (.yld y b :: as), []⟩ H) :
    ∃ f tmps, (Instr.yield c vals).run P w = .ok (.round c f tmps asg' bd') w ∧ RoundIn Fence.wide 0 P c f tmps asg' bd' w (fun e w' => ∃ t ι' H', e = .returned (.bool t) ∧ Sim L ι' H' w' ∧ Ext ι H w ι' H' w' ∧ Q .ret ⟨[(0, .bool t)], []⟩ H') := by
  have g0 : (⟨frame0 0 (.yld y b :: as), []⟩ : Fr).get 0 = some (.yld y b) := rfl
  simp only [wpC, g0, rndIn] at h
  obtain ⟨_, h⟩ := h
  obtain ⟨tm, r, hg, hk, _, hw, hr, hst, hpd, htm⟩ := rnd_at s hb h
  rw [hρ] at hr
  simp only [Option.some.injEq, Prod.mk.injEq] at hr
  obtain ⟨rfl, rfl, rfl, rfl⟩ := hr
  subst hps
  have hsz : vals.size = r.params.size := by rw [← Array.length_toList, ← hv.length, hlen, Array.length_toList]
  have hget : ∀ (n : Nat) (l : List V) (j : Nat) (v : V), l[j]? = some v → look (frame0 n l) (n + j) = some v := by
    intro n l
    induction l generalizing n with
    | nil => intro j v hj; simp at hj
    | cons u l ih =>
      intro j v hj
      cases j with
      | zero => simp at hj; subst hj; simp [frame0, look]
      | succ j =>
        have := ih (n + 1) j v (by simpa using hj)
        simp only [frame0, look]
        rw [if_neg (by omega), show n + (j + 1) = n + 1 + j by omega]
        exact this
  obtain ⟨l1, l2⟩ := lay_rel (fr := ⟨frame0 0 (.yld y b :: as), []⟩) r.params.toList as vals.toList 1 tm r.tmps hv hlen (fun j v hj => by
    have := hget 0 (.yld y b :: as) (j + 1) v (by simpa using hj)
    rw [Nat.zero_add, Nat.add_comm] at this
    exact this) hlt htm
  have ez : (r.params.zip vals).foldl (fun tmps (t, a) => tmps.setIfInBounds t a) r.tmps = (r.params.toList.zip vals.toList).foldl (fun (x : Array Value) (p : Nat × Value) => x.setIfInBounds p.1 p.2) r.tmps := by
    rw [← Array.foldl_toList, Array.toList_zip]
  refine ⟨_, _, run_yield hw hsz, roundIn_of_wpIn trivial ?_⟩
  rw [ez]
  have hfr : FrOk L r.tmps.size ι ⟨layT ⟨frame0 0 (.yld y b :: as), []⟩ r.params.toList 1 tm, []⟩ ⟨(r.params.toList.zip vals.toList).foldl (fun (x : Array Value) (p : Nat × Value) => x.setIfInBounds p.1 p.2) r.tmps, []⟩ := ⟨l2, fun t v hv => l1 t v hv, rfl⟩
  refine wpIn_mono (code_round (ro := some c) (ι0 := ι) (H0 := H) (w0 := w) kk hm s asg _ _ _ H ι ⟨_, []⟩ w c1 o1 s (Ext.refl _ _ _) hfr hk) (fun e a1 w1 he => ?_)
  obtain ⟨ι1, fr1, H1, s1, x1, hf1, hq⟩ := he
  cases e with
  | normal =>
    have hb1 := x1.le _ _ hb
    obtain ⟨tm1, r1, hg1, hk1, _, hw1, hr1, hst1, hpd1, htm1⟩ := rnd_at s1 hb1 hq
    obtain ⟨s2, x2⟩ := rnd_put (st' := 1) (pend := none) s1 hb1 hg1 rfl hr1 htm1
    have eb : ({ r1 with state := .busy } : Loop) = { r1 with state := lpSt 1, pending := lpJ none } := by cases r1; simp_all [lpSt, lpJ]
    refine ⟨_, run_beginRound hw1 hst1, ?_⟩
    rw [eb, putObj_setO]
    refine wpIn_mono (code_round (ro := some c) (ι0 := ι) (H0 := H) (w0 := w) kk hm s bd _ _ fr1 _ ι1 a1 _ c2 o2 s2 (x1.trans s s1 x2) hf1 hk1) (fun e2 a2 w2 he2 => ?_)
    obtain ⟨ι2, fr2, H2, s3, x3, hf2, hq2⟩ := he2
    have hb2 := x3.le _ _ hb
    have fin : ∀ (st : Nat) (pend : Option (Option Nat)) (t : Bool) (K : List (Nat × V) → Prop), rndAt H2 b y 1 K → (∀ tm2, K tm2 → Q .ret ⟨[(0, .bool t)], []⟩ (H2.put b (.lp y tm2 st pend))) → (lpJ pend).isNone = t → lpSt st = (if (lpJ pend).isNone then .ready else .done) →
        ∃ v w', (Instr.endRound c (lpJ pend)).run P w2 = .ok v w' ∧ ∃ t ι' H', Ending.returned v = .returned (.bool t) ∧ Sim L ι' H' w' ∧ Ext ι H w ι' H' w' ∧ Q .ret ⟨[(0, .bool t)], []⟩ H' := fun st pend t K hat hK ht hs => by
      obtain ⟨tm2, r2, hg2, hk2, _, hw2, hr2, hst2, hpd2, htm2⟩ := rnd_at s3 hb2 hat
      obtain ⟨s4, x4⟩ := rnd_put (st' := st) (pend := pend) s3 hb2 hg2 rfl hr2 htm2
      refine ⟨_, _, run_endRound (lpJ pend) hw2, t, ι2, _, by rw [ht], ?_, ?_, hK tm2 hk2⟩
      · rw [← hs, putObj_setO]; exact s4
      · rw [← hs, putObj_setO]; exact x3.trans s s3 x4
    cases e2 with
    | normal => exact fin 0 none true _ hq2 (fun _ h => h) rfl rfl
    | exit id => exact fin 2 (some (some id)) false _ hq2 (fun _ h => h) rfl rfl
    | ret => exact fin 2 (some none) false _ hq2 (fun _ h => h) rfl rfl
    | goto l =>
      obtain ⟨_, _, _, hk2, _⟩ := rnd_at s3 hb2 hq2
      exact hk2.elim
    | panic ch =>
      obtain ⟨v, v', _, _, hq2⟩ := hq2
      obtain ⟨_, _, _, hk2, _⟩ := rnd_at s3 hb2 hq2
      exact hk2.elim
    | outgrown => exact hq2.elim
  | exit id => exact hq.elim
  | goto l => exact hq.elim
  | ret => exact hq.elim
  | panic ch => obtain ⟨v, v', _, _, hq⟩ := hq; exact hq.elim
  | outgrown => exact hq.elim
end
def ckRes (L : Lk) (P : Program) (nt : Nat) : List ARes → List ResultVar → Bool
  | [], [] => true
  | .t n :: r, .tmp m :: s => n == m && ckRes L P nt r s
  | .cell n sz :: r, .cell m t :: s => n == m && ckAgg P t sz && ckRes L P nt r s
  | _, _ => false

def resOne (tmps : Array Value) : ResultVar → Sem Value
  | .tmp t => pure (tmps.getD t undef)
  | .cell a t => do loadVar t (← asAddr (tmps.getD a undef))

theorem results_eq (fn : Func) (tmps : Array Value) : results fn tmps = (fn.results.mapM (resOne tmps) >>= fun vs => pure (if h : vs.size = 1 then vs[0] else .tuple vs)) := by
  unfold results
  congr 2

theorem res_sound {ι : Im} {H : Heap} {w : World} {fr : Fr} {tmps : Array Value} {nt : Nat} (s : Sim L ι H w) (hf : FrRel L ι fr tmps) : ∀ {rs : List ARes} {vs : List V} {rv : List ResultVar}, ckRes L P nt rs rv = true → resOf fr H rs = some vs →
    ∃ ws : List Value, (rv.mapM (resOne tmps)).run P w = .ok ws w ∧ RelL L ι vs ws
  | [], vs, [], _, h => by cases h; exact ⟨[], rfl, rfl⟩
  | [], vs, _ :: _, hc, _ => by simp [ckRes] at hc
  | .t n :: rs, vs, [], hc, _ => by simp [ckRes] at hc
  | .cell n sz :: rs, vs, [], hc, _ => by simp [ckRes] at hc
  | .t n :: rs, vs, .tmp m :: rv, hc, h => by
    simp only [ckRes, Bool.and_eq_true, beq_iff_eq] at hc
    obtain ⟨rfl, hc⟩ := hc
    simp only [resOf] at h
    split at h
    · rename_i v l e1 e2
      cases h
      obtain ⟨v', k1, k2⟩ := hf n v e1
      obtain ⟨ws, r1, r2⟩ := res_sound s hf hc e2
      refine ⟨v' :: ws, ?_, v', ws, rfl, k2, r2⟩
      rw [List.mapM_cons, Sem.run_bind]
      simp only [resOne, Array.getD_eq_getD_getElem?, k1, Option.getD_some, Sem.run_pure, Result.andThen_ok, Sem.run_bind, r1]
    · cases h
  | .cell n sz :: rs, vs, .cell m t :: rv, hc, h => by
    simp only [ckRes, Bool.and_eq_true, beq_iff_eq] at hc
    obtain ⟨⟨rfl, hag⟩, hc⟩ := hc
    simp only [resOf] at h
    split at h
    · rename_i b o l e1 e2
      simp only [Option.map_eq_some_iff] at h
      obtain ⟨v, h1, rfl⟩ := h
      obtain ⟨v', k1, c, p, z, k2, rfl⟩ := hf n _ e1
      obtain ⟨ws, r1, r2⟩ := res_sound s hf hc e2
      have hload : ∃ x, (loadVar t ⟨c, p + o, none⟩).run P w = .ok x w ∧ Rel L ι v x := by
        unfold ckAgg at hag
        split at hag
        · rename_i d0 hd
          cases sz with
          | none =>
            simp only [Bool.not_eq_true'] at hag
            obtain ⟨x, q1, q2⟩ := s.load1 k2 h1
            exact ⟨x, by simp only [loadVar, Sem.run_bind, r_isAgg hd, Result.andThen_ok, hag, Bool.false_eq_true, if_false, run_load_some q1], q2⟩
          | some n =>
            obtain ⟨ha, hi⟩ := and2 hag
            simp only [Option.any_eq_true, beq_iff_eq] at hi
            obtain ⟨i, hi1, hi2⟩ := hi
            obtain ⟨arr, q1, q2⟩ := s.loadN (P := P) k2 h1
            exact ⟨.agg arr, by simp only [loadVar, Sem.run_bind, r_isAgg hd, Result.andThen_ok, ha, if_true, r_size hi1, hi2, q1, Sem.run_pure], q2⟩
        · cases hag
      obtain ⟨x, q1, q2⟩ := hload
      refine ⟨x :: ws, ?_, x, ws, rfl, q2, r2⟩
      rw [List.mapM_cons, Sem.run_bind]
      simp only [resOne, Array.getD_eq_getD_getElem?, k1, Option.getD_some, asAddr, Sem.run_pure, Result.andThen_ok, Sem.run_bind, q1, r1]
    · cases h
  | .t n :: rs, vs, .cell m t :: rv, hc, _ => by simp [ckRes] at hc
  | .cell n sz :: rs, vs, .tmp m :: rv, hc, _ => by simp [ckRes] at hc

theorem results_sound {ι : Im} {H : Heap} {w : World} {fr : Fr} {tmps : Array Value} {nt : Nat} {fn : Func} {rs : List ARes} {vs : List V} (s : Sim L ι H w) (hf : FrRel L ι fr tmps) (hc : ckRes L P nt rs fn.results.toList = true)
    (h : resOf fr H rs = some vs) : ∃ x, (results fn tmps).run P w = .ok x w ∧ Rel L ι (bundle vs) x := by
  obtain ⟨ws, h1, h2⟩ := res_sound (P := P) s hf hc h
  have hrun : (results fn tmps).run P w = .ok (if hh : ws.toArray.size = 1 then ws.toArray[0] else .tuple ws.toArray) w := by
    rw [results_eq, Sem.run_bind, Array.mapM_eq_mapM_toList, Sem.run_map, h1]
    rfl
  refine ⟨_, hrun, ?_⟩
  match vs, ws, h2 with
  | [], ws, h2 => rw [show ws = [] from h2]; exact ⟨#[], rfl, rfl⟩
  | [v], _, ⟨y, s, e, hr, ht⟩ => rw [e, show s = [] from ht]; exact hr
  | v :: v2 :: r, _, ⟨y, s, e, hr, y2, s2, e2, hr2, ht⟩ =>
    subst e e2
    rw [dif_neg (by simp)]
    exact ⟨_, rfl, y, _, rfl, hr, y2, _, rfl, hr2, ht⟩

def ckTop (L : Lk) (P : Program) (nt : Nat) : Cd → Code → Bool
  | .recov d b, c => ckRec L P nt d b c
  | _, _ => false

def ckFun (L : Lk) (P : Program) (F : AFun) (fn : Func) (rr : Bool := false) : Bool :=
  match fn.body with
  | some c => !(fn.name == "runtime.NumGoroutine") && fn.ntmps == F.nt && decide (F.np ≤ F.nt) && ckRes L P F.nt F.res fn.results.toList && ((ckCd L P F.nt F.body c && (rr || noRng F.body)) || (!F.nodef && ckTop L P F.nt F.body c))
  | none => false

/-- A function that sorts. -/
def ckOrc (F : AFun) (fn : Func) : Bool := (match F.body with | .orc => true | _ => false) && F.np == 1 && F.res.isEmpty && !F.nodef && !(fn.name == "runtime.NumGoroutine") && fn.body.isSome

/-- A call that tells true and leaves what was. -/
def Grew (w : World) (e : Ending) (w' : World) : Prop := e = .returned (.bool true) ∧ w.heap.size ≤ w'.heap.size ∧ (∀ k, k < w.heap.size → w'.heap[k]? = w.heap[k]?) ∧ w'.os = w.os ∧ w'.tape = w.tape ∧ w'.output = w.output
structure ClosedTrue (P : Program) (f : FuncId) : Prop where
  c : ∀ w, Calls P f #[] w (Grew w)
  d : ∀ w u, CallsD P f #[] u w fun e u' w' => u' = u ∧ Grew w e w'
/-- Its text in the abstract machine. -/
def cdTrue : AFun := ⟨0, 1, true, [.t 0], .seq (.reg false [0] [⟨some 0, .mv (.c (.bool true)), none, 0, []⟩]) .ret⟩
/-- A function's text is checked; or it sorts; or it is closed, and tells true. -/
def FnOk (L : Lk) (P : Program) (f : FuncId) (F : AFun) (fn : Func) : Prop := (∃ rr, ckFun L P F fn rr = true ∧ (rr = true → ∀ c, fn.body = some c → rngsOk L F.nt F.body c)) ∨ (ckOrc F fn = true ∧ SortsInt P f) ∨ (F = cdTrue ∧ (fn.name == "runtime.NumGoroutine") = false ∧ fn.body.isSome = true ∧ ClosedTrue P f)
theorem FnOk.text {f : FuncId} {F : AFun} {fn : Func} (h : ckFun L P F fn = true) : FnOk L P f F fn := .inl ⟨false, h, fun h => by cases h⟩
/-- Its ranges over functions, in their order. -/
def rngL : Cd → Code → List (Nat × Array Tmp × Code × Code)
  | .seq a b, .seq c d => rngL a c ++ rngL b d
  | .cond _ x y, .cond _ x' y' => rngL x x' ++ rngL y y'
  | .block _ c, .block _ c' => rngL c c'
  | .loop _ c, .loop c' => rngL c c'
  | .scope c, .scope c' => rngL c c'
  | .rangeF _ y _ _, .rangeFunc _ ps asg bd => [(y, ps, asg, bd)]
  | _, _ => []
/-- None stands in a scope that is jumped back to. -/
def gsOk : Cd → Bool
  | .seq a b => gsOk a && gsOk b
  | .cond _ a b => gsOk a && gsOk b
  | .block _ c => gsOk c
  | .loop _ c => gsOk c
  | .scope c => gsOk c
  | .gscope a _ _ b => noRng a && noRng b
  | _ => true
theorem rngsOk_list {nt : Nat} : ∀ {c : Cd} {c' : Code}, gsOk c = true → (∀ p ∈ rngL c c', L.ρ p.1 = some (p.2.1, p.2.2.1, p.2.2.2, nt)) → rngsOk L nt c c'
  | .skip, c', _, _ => by cases c' <;> trivial
  | .reg _ _ _, c', _, _ => by cases c' <;> trivial
  | .seq a b, c', h, k => by
    simp only [gsOk, Bool.and_eq_true] at h
    cases c' <;> first | trivial | exact ⟨rngsOk_list h.1 fun p hp => k p (List.mem_append_left _ hp), rngsOk_list h.2 fun p hp => k p (List.mem_append_right _ hp)⟩
  | .cond _ a b, c', h, k => by
    simp only [gsOk, Bool.and_eq_true] at h
    cases c' <;> first | trivial | exact ⟨rngsOk_list h.1 fun p hp => k p (List.mem_append_left _ hp), rngsOk_list h.2 fun p hp => k p (List.mem_append_right _ hp)⟩
  | .block _ c, c', h, k => by cases c' <;> first | trivial | exact rngsOk_list (c := c) h k
  | .loop _ c, c', h, k => by cases c' <;> first | trivial | exact rngsOk_list (c := c) h k
  | .exit _, c', _, _ => by cases c' <;> trivial
  | .ret, c', _, _ => by cases c' <;> trivial
  | .scope c, c', h, k => by cases c' <;> first | trivial | exact rngsOk_list (c := c) h k
  | .gscope a l live b, c', h, _ => by
    simp only [gsOk, Bool.and_eq_true] at h
    cases c' <;> exact h
  | .goto _, c', _, _ => by cases c' <;> trivial
  | .recov _ _, c', _, _ => by cases c' <;> trivial
  | .rnd _ _ _ _, c', _, _ => by cases c' <;> trivial
  | .shut, c', _, _ => by cases c' <;> trivial
  | .orc, c', _, _ => by cases c' <;> trivial
  | .rangeF _ y _ _, c', _, k => by cases c' <;> first | trivial | exact k _ List.mem_cons_self
def rngYs (F : AFun) (fn : Func) : List Nat := match fn.body with
  | some c => (rngL F.body c).map (·.1)
  | none => []
def rngRho (F : AFun) (fn : Func) (y : Nat) : Option (Array Tmp × Code × Code × Nat) := match fn.body with
  | some c => ((rngL F.body c).find? fun p => p.1 == y).map fun p => (p.2.1, p.2.2.1, p.2.2.2, F.nt)
  | none => none
/-- It has a range over a function. -/
theorem FnOk.ranges {f : FuncId} {F : AFun} {fn : Func} {y : Nat} (h : ckFun L P F fn true = true) (hy : rngYs F fn = [y]) (hg : gsOk F.body = true) (hρ : L.ρ y = rngRho F fn y) : FnOk L P f F fn := .inl ⟨true, h, fun _ c hc => rngsOk_list hg fun p hp => by
  unfold rngYs at hy
  unfold rngRho at hρ
  rw [hc] at hy hρ
  dsimp only at hy hρ
  obtain ⟨q, hl⟩ : ∃ q, rngL F.body c = [q] := List.length_eq_one_iff.1 (by rw [← List.length_map (f := (·.1)), hy]; rfl)
  rw [hl] at hy hρ hp
  obtain rfl : p = q := by simpa using hp
  simp only [List.map_cons, List.map_nil, List.cons.injEq, and_true] at hy
  subst hy
  rw [hρ]
  simp⟩
/-- The mark's function. -/
def cdShut : AFun := ⟨1, 1, true, [], .shut⟩
/-- A round's text. -/
def ckRnd (L : Lk) (P : Program) (y : Nat) : Option AFun → Option (Array Tmp × Code × Code × Nat) → Bool
  | some ⟨np, nt', nd, rs, .rnd y' ps' c d⟩, some (ps, asg, bd, nt) => y' == y && np == 1 + ps.size && nt' == nt && nd && (match rs with | [.t 0] => true | _ => false) && ps' == ps.toList && ps'.all (fun p => decide (p < nt)) && ckCd L P nt c asg && ckCd L P nt d bd && rdOk asg && rdOk bd
  | _, none => true
  | _, _ => false
theorem ckRnd_spec {y : Nat} {F : Option AFun} {ps : Array Tmp} {asg bd : Code} {nt : Nat} (h : ckRnd L P y F (some (ps, asg, bd, nt)) = true) :
    ∃ c d, F = some ⟨1 + ps.size, nt, true, [.t 0], .rnd y ps.toList c d⟩ ∧ (∀ p ∈ ps.toList, p < nt) ∧ ckCd L P nt c asg = true ∧ ckCd L P nt d bd = true ∧ rdOk asg = true ∧ rdOk bd = true := by
  unfold ckRnd at h
  split at h
  · rename_i np nt' nd rs y' ps' c d ps0 asg0 bd0 nt0 e
    cases e
    simp only [Bool.and_eq_true, beq_iff_eq] at h
    obtain ⟨⟨⟨⟨⟨⟨⟨⟨⟨⟨rfl, rfl⟩, rfl⟩, rfl⟩, h5⟩, rfl⟩, h7⟩, h8⟩, h9⟩, h10⟩, h11⟩ := h
    refine ⟨c, d, ?_, fun p hp => by simpa using List.all_eq_true.1 h7 p hp, h8, h9, h10, h11⟩
    split at h5
    · rfl
    · cases h5
  · rename_i e; cases e
  · cases h

structure Linked (L : Lk) (P : Program) (pr : Prog) : Prop where
  mixed : P.follows .mixedOrders = true
  fn : ∀ g, L.dom g = true → ∃ F fn, pr g = some F ∧ P.funcs[L.φ g]? = some fn ∧ FnOk L P (L.φ g) F fn
  rds : ∀ y, L.ρ y = none ∨ ckRnd L P y (pr y) (L.ρ y) = true := by
    exact fun _ => Or.inl rfl
  sht : ∀ g, L.sh g = true → pr g = some cdShut := by
    exact fun _ h => by cases h

theorem ckOrc_spec {F : AFun} {fn : Func} (h : ckOrc F fn = true) : F.body = .orc ∧ F.np = 1 ∧ F.res = [] ∧ F.nodef = false ∧ (fn.name == "runtime.NumGoroutine") = false ∧ fn.body.isSome = true := by
  simp only [ckOrc, Bool.and_eq_true, beq_iff_eq, Bool.not_eq_true', List.isEmpty_iff] at h
  obtain ⟨⟨⟨⟨⟨h1, h2⟩, h3⟩, h4⟩, h5⟩, h6⟩ := h
  refine ⟨?_, h2, h3, h4, h5, h6⟩
  split at h1
  · assumption
  · cases h1

theorem Linked.zero {pr : Prog} (k : Linked L P pr) : Linked0 L P := ⟨fun g hg => by
  obtain ⟨F, fn, _, h2, h3⟩ := k.fn g hg
  rcases h3 with ⟨rr, h3, _⟩ | ⟨h3, _⟩ | ⟨_, h5, h6, _⟩
  case inr.inl =>
    obtain ⟨_, _, _, _, h5, h6⟩ := ckOrc_spec h3
    obtain ⟨c, hc⟩ := Option.isSome_iff_exists.1 h6
    exact ⟨fn, c, h2, h5, hc⟩
  case inr.inr =>
    obtain ⟨c, hc⟩ := Option.isSome_iff_exists.1 h6
    exact ⟨fn, c, h2, h5, hc⟩
  unfold ckFun at h3
  split at h3
  · rename_i c hc
    simp only [Bool.and_eq_true, Bool.not_eq_true'] at h3
    exact ⟨fn, c, h2, h3.1.1.1.1, hc⟩
  · cases h3⟩

theorem frame0_get : ∀ (l : List V) (n t : Nat) (v : V), look (frame0 n l) t = some v → n ≤ t ∧ l[t - n]? = some v
  | [], n, t, v, h => by cases h
  | x :: l, n, t, v, h => by
    simp only [frame0, look] at h
    split at h
    · rename_i e; subst e; cases h; simp
    · rename_i e
      obtain ⟨h1, h2⟩ := frame0_get l (n + 1) t v h
      refine ⟨by omega, ?_⟩
      rw [show t - n = (t - (n + 1)) + 1 by omega, List.getElem?_cons_succ]; exact h2

theorem frame0_ok {ι : Im} {np nt fnt : Nat} {l : List V} {args : Array Value} (hlen : l.length = np) (hnt : fnt = nt) (hnp : np ≤ nt) (hargs : RelL L ι l args.toList) :
    FrOk L nt ι ⟨frame0 0 l, []⟩ { tmps := args ++ Array.replicate (fnt - args.size) undef, defers := [] } := by
  have hasz : args.size = np := by rw [← Array.length_toList, ← hargs.length, hlen]
  refine ⟨by simp [hnt, hasz]; omega, fun t v hv => ?_, rfl⟩
  obtain ⟨_, h5⟩ := frame0_get l 0 t v hv
  obtain ⟨v', h6, h7⟩ := hargs.get h5
  refine ⟨v', ?_, h7⟩
  have hlt : t < args.size := by rw [← Array.length_toList]; exact (List.getElem?_eq_some_iff.1 h6).1
  rw [Array.getElem?_append_left hlt]
  rw [Array.getElem?_toList] at h6; exact h6

theorem recOf_spec {pr : Prog} {g d : Nat} {F : AFun} {c : Cd} (h : recOf pr g = some (F, d, c)) : pr g = some F ∧ F.body = .recov d c := by
  unfold recOf at h
  split at h
  · rename_i F0 e
    split at h
    · rename_i d0 c0 e2
      cases h
      exact ⟨e, e2⟩
    · cases h
  · cases h

/-- A deferred function that asks what was panicked with. -/
theorem recB_sound {pr : Prog} (k : Linked L P pr) {g d : Nat} {F : AFun} {c : Cd} (hg : L.dom g = true) (hr : recOf pr g = some (F, d, c)) {x : V} {x' : Value} {l : List V} {H : Heap} {K : Heap → Prop}
    (h : recB (SC L P (ndOf pr)) F d c x l H K) {ι : Im} {w : World} {args : Array Value} (s : Sim L ι H w) (hargs : RelL L ι l args.toList) (hx : Rel L ι x x') (u u2 : FrameMode)
    (hu : ∀ (c₀ : Frame) (cs : List Frame), c₀.mode = u → recoverD (c₀ :: cs) = some (x', { c₀ with mode := u2 } :: cs) ∨ (recoverD (c₀ :: cs) = none ∧ x' = .nilIface ∧ u2 = u)) :
    CallsD P (L.φ g) args u w fun e u' w' => (∃ v, e = .returned v) ∧ u' = u2 ∧ ∃ ι' H', Sim L ι' H' w' ∧ Ext ι H w ι' H' w' ∧ K H' := by
  obtain ⟨e1, e2⟩ := recOf_spec hr
  obtain ⟨F', fn, h1, h2, h3⟩ := k.fn g hg
  rw [e1] at h1; cases h1
  rcases h3 with ⟨rr, h3, _⟩ | ⟨h3, _⟩ | ⟨h3, _⟩
  case inr.inl => rw [(ckOrc_spec h3).1] at e2; cases e2
  case inr.inr => subst h3; cases e2
  unfold ckFun at h3
  split at h3
  case h_2 => cases h3
  rename_i code hcode
  simp only [Bool.and_eq_true, Bool.not_eq_true', beq_iff_eq, decide_eq_true_eq, Bool.or_eq_true] at h3
  obtain ⟨⟨⟨⟨_, hnt⟩, hnp⟩, hres⟩, hck⟩ := h3
  rw [e2] at hck
  have hck : ckRec L P F.nt d c code = true := by
    rcases hck with hck | hck
    · have hck := hck.1; cases code <;> simp [ckCd] at hck
    · exact hck.2
  obtain ⟨hlen, hw⟩ := h
  have hf := frame0_ok (L := L) (ι := ι) hlen hnt hnp hargs
  refine callsD_of_wpS h2 hcode fun c₀ cs hm => ?_
  have hu := hu c₀ cs hm
  have hu : recoverD (c₀ :: cs) = some (x', { c₀ with mode := u2 } :: cs) ∨ (recoverD (c₀ :: cs) = none ∧ x' = .nilIface ∧ { c₀ with mode := u2 } :: cs = c₀ :: cs) := by
    rcases hu with hu | ⟨h1, h2, rfl⟩
    · exact .inl hu
    · subst hm; exact .inr ⟨h1, h2, rfl⟩
  intro b kk hb hro
  obtain ⟨e, a', cs', w', ⟨rfl, ι', fr', H', s', xx, hf', hq⟩, harr⟩ := rec_sound (nd := ndOf pr) k.zero k.mixed s hu c code _ _ H ι _ w hck s (Ext.refl _ _ _) hf hx hw b kk hb hro
  refine ⟨e, a', _, w', ?_, harr⟩
  have fin : fr'.ds = [] ∧ (∃ vs, resOf fr' H' F.res = some vs) ∧ K H' → a'.defers = [] ∧ ∃ u', ({ c₀ with mode := u2 } : Frame) :: cs = { c₀ with mode := u' } :: cs ∧ ∃ v, (results fn a'.tmps).run P w' = .ok v w' ∧ ((∃ v', Ending.returned v = .returned v') ∧ u' = u2 ∧ ∃ ι' H', Sim L ι' H' w' ∧ Ext ι H w ι' H' w' ∧ K H') := by
    rintro ⟨q1, ⟨vs, q2⟩, q3⟩
    have hdd := hf'.ds
    rw [q1] at hdd
    obtain ⟨y, r1, r2⟩ := results_sound (P := P) s' hf'.tm hres q2
    exact ⟨hdd, u2, rfl, y, r1, ⟨y, rfl⟩, rfl, ι', H', s', xx, q3⟩
  cases e with
  | normal => exact fin hq
  | ret => exact fin hq
  | exit id => exact hq.elim
  | goto l => exact hq.elim
  | panic ch => obtain ⟨_, _, _, _, hq⟩ := hq; exact hq.elim
  | outgrown => exact hq.elim

/-- A frame on its way out; marks of ranges over functions among its deferred calls. -/
def LeavesM (P : Program) (fn : Func) (tmps : Array Value) (R : Ending → World → Prop) : List Deferred → FrameMode → World → Prop
  | [], u, w => Leaves P fn tmps R [] u w
  | d :: ds, u, w => u ≠ .run ∧ ((∃ c w', d.target = .collected c ∧ (Instr.takeDeferred c).run P w = .ok [] w' ∧ LeavesM P fn tmps R ds u w') ∨
      ∃ fv cap f args, d.target = .fn fv cap ∧ (invoke d.target d.args).run P w = .ok (.enter f args) w ∧ CallsD P f args u w fun e u' w' => match e with
        | .returned _ => LeavesM P fn tmps R ds (settle u') w'
        | .panicked chain => LeavesM P fn tmps R ds (raised u' chain) w'
        | .outgrown => R .outgrown w')
theorem leavesM_steps {fn : Func} {tmps : Array Value} {R : Ending → World → Prop} {cs : List Frame} : ∀ (ds : List Deferred) (u : FrameMode) (w : World) (fr : Frame), fr.mode = u → fr.defers = ds → fr.tmps = tmps → P.funcs[fr.fn]? = some fn → fr.kind = .normal → LeavesM P fn tmps R ds u w →
    ∃ e w' fr', R e w' ∧ Comes P (lone fr cs w) (lone fr' cs w') e ∧ fr'.fn = fr.fn ∧ fr'.leaving P w' e
  | [], u, w, fr, h1, h2, h3, h4, h5, h => leaves_steps [] u w fr cs h1 h2 h3 h4 h5 h
  | d :: ds, u, w, fr, h1, h2, h3, h4, h5, ⟨hu, h⟩ => by
    subst h1
    rcases h with ⟨c, w', ht, hk, h⟩ | ⟨fv, cap, f, args, ht, hi, h⟩
    · obtain ⟨e, w2, fr2, k1, k2, k3, k4⟩ := leavesM_steps ds fr.mode w' { fr with defers := [] ++ ds } rfl rfl h3 h4 h5 h
      exact ⟨e, w2, fr2, k1, Comes.of_steps (.one (step_collected hu h2 ht hk)) k2, k3, k4⟩
    · have go := step_defer (cs := cs) hu h2 ht hi
      obtain ⟨e, u', w', frX, hR, hs, hk, hg⟩ := h { fr with defers := ds } cs rfl
      cases e with
      | outgrown => exact ⟨.outgrown, w', fr, hR, Outgrown.of_steps (.one go) hs, rfl, trivial⟩
      | returned v =>
        obtain ⟨e, w2, fr2, k1, k2, k3, k4⟩ := leavesM_steps ds (settle u') w' { fr with defers := ds, mode := settle u' } rfl rfl h3 h4 h5 hR
        exact ⟨e, w2, fr2, k1, Comes.of_steps (.head go (Steps.trans hs (.one (step_going_returned (c := { fr with defers := ds, mode := u' }) hk hg)))) k2, k3, k4⟩
      | panicked ch =>
        obtain ⟨e, w2, fr2, k1, k2, k3, k4⟩ := leavesM_steps ds (raised u' ch) w' { fr with defers := ds, mode := raised u' ch } rfl rfl h3 h4 h5 hR
        exact ⟨e, w2, fr2, k1, Comes.of_steps (.head go (Steps.trans hs (.one (step_going_panicked (c := { fr with defers := ds, mode := u' }) hg)))) k2, k3, k4⟩
/-- A function, from its body. -/
theorem calls_of_marks {f : FuncId} {fn : Func} {c : Code} {args : Array Value} {w : World} {R : Ending → World → Prop} (hf : P.funcs[f]? = some fn) (hb : fn.body = some c)
    (h : c.wp P (fun e a w => match e with
      | .normal => LeavesM P fn a.tmps R a.defers .returning w
      | .ret => LeavesM P fn a.tmps R a.defers .returning w
      | .panic chain => LeavesM P fn a.tmps R a.defers (.panicking chain) w
      | _ => False) { tmps := args ++ Array.replicate (fn.ntmps - args.size) undef, defers := [] } w) : Calls P f args w R := fun cs => by
  have hin : Frame.enter P f args .normal = ({ (default : Frame) with fn := f, kind := .normal } : Frame).at { tmps := args ++ Array.replicate (fn.ntmps - args.size) undef, defers := [] } [.code c] := by
    simp [Frame.enter, Frame.at, hf, hb]
  obtain ⟨e, a, w', hq, harr⟩ := h { (default : Frame) with fn := f, kind := .normal } [] cs
  rw [← hin] at harr
  cases e with
  | normal =>
    obtain ⟨e2, w2, fr2, k1, k2, k3, k4⟩ := leavesM_steps (cs := cs) a.defers .returning w' { ({ (default : Frame) with fn := f, kind := .normal } : Frame).at a [] with mode := .returning } rfl rfl rfl hf rfl hq
    exact ⟨e2, w2, fr2, k1, Comes.of_steps (Steps.trans harr (.one step_end)) k2, k3, k4⟩
  | ret =>
    obtain ⟨todo, hs⟩ := harr
    obtain ⟨e2, w2, fr2, k1, k2, k3, k4⟩ := leavesM_steps (cs := cs) a.defers .returning w' { ({ (default : Frame) with fn := f, kind := .normal } : Frame).at a todo with mode := .returning } rfl rfl rfl hf rfl hq
    exact ⟨e2, w2, fr2, k1, Comes.of_steps hs k2, k3, k4⟩
  | panic chain =>
    obtain ⟨todo, hs⟩ := harr
    obtain ⟨e2, w2, fr2, k1, k2, k3, k4⟩ := leavesM_steps (cs := cs) a.defers (.panicking chain) w' { ({ (default : Frame) with fn := f, kind := .normal } : Frame).at a todo with mode := .panicking chain } rfl rfl rfl hf rfl hq
    exact ⟨e2, w2, fr2, k1, Comes.of_steps hs k2, k3, k4⟩
  | exit id => exact hq.elim
  | goto l => exact hq.elim
  | outgrown => exact hq.elim

theorem leaves_sound {pr : Prog} {ι0 : Im} {H0 : Heap} {w0 : World} (k : Linked L P pr) (s0 : Sim L ι0 H0 w0) {fn : Func} {tmps : Array Value} {fr : Fr} {R : Ending → World → Prop} {K : Heap → Prop}
    (hK : ∀ ι H w, Sim L ι H w → Ext ι0 H0 w0 ι H w → FrRel L ι fr tmps → K H → ∃ v, (results fn tmps).run P w = .ok v w ∧ R (.returned v) w) :
    ∀ (ds : List (Nat × List V)) (defs : List Deferred) (ι : Im) (H : Heap) (w : World), Sim L ι H w → Ext ι0 H0 w0 ι H w → FrRel L ι fr tmps → DsRel L ι ds defs → evDs pr (SC L P (ndOf pr)) K ds H → LeavesM P fn tmps R defs .returning w
  | [], defs, ι, H, w, s, x, hf, hd, h => by
    rw [show defs = [] from hd]
    exact hK ι H w s x hf h
  | (g, l) :: r, defs, ι, H, w, s, x, hf, hd, h => by
    rcases hd with hd | ⟨b, c, z, s', rfl, hb, hsh, rfl, hrest⟩
    rotate_left
    · have hp := k.sht g hsh
      have hrec : recOf pr g = none := by unfold recOf; rw [hp]; rfl
      simp only [evDs, hrec] at h
      obtain ⟨w', q1, ι', H', s1, x1, hq⟩ := h.2.2.2 hsh ι w b c z rfl s hb
      obtain ⟨_, _, hq⟩ := hq
      exact ⟨by simp, .inl ⟨c, w', rfl, q1, leaves_sound k s0 hK r s' ι' H' w' s1 (x.trans s0 s x1) (hf.mono x1.le) (hrest.mono x1.le) hq⟩⟩
    obtain ⟨caps, args, s', e, hdom, hr, hrest⟩ := hd
    subst e
    refine ⟨by simp, .inr ⟨_, _, _, _, rfl, (by simp only [invoke]; exact run_callFunc k.zero hdom _), ?_⟩⟩
    unfold evDs at h
    split at h
    · rename_i F d c hrec
      refine (recB_sound k hdom hrec h s hr (x' := .nilIface) rfl .returning .returning (fun c₀ cs hm => .inr ⟨by simp [recoverD, hm], rfl, rfl⟩)).mono ?_
      rintro e u' w' ⟨⟨v, rfl⟩, rfl, ι', H', s1, x1, hk⟩
      exact leaves_sound k s0 hK r s' ι' H' w' s1 (x.trans s0 s x1) (hf.mono x1.le) (hrest.mono x1.le) hk
    · obtain ⟨hnd, hc⟩ := h
      refine ((hc.1 hdom ι w (args ++ caps) s hr).2 hnd .returning).mono ?_
      rintro e u' w' ⟨rfl, ι', H', s1, x1, hm⟩
      cases e with
      | returned v' =>
        obtain ⟨v, _, hq⟩ := hm
        exact leaves_sound k s0 hK r s' ι' H' w' s1 (x.trans s0 s x1) (hf.mono x1.le) (hrest.mono x1.le) hq
      | panicked chain => obtain ⟨v, v', _, _, hq⟩ := hm; exact hq.elim
      | outgrown => exact hm.elim

theorem leavesP_sound {pr : Prog} {ι0 : Im} {H0 : Heap} {w0 : World} (k : Linked L P pr) (s0 : Sim L ι0 H0 w0) {fn : Func} {tmps : Array Value} {fr : Fr} {R : Ending → World → Prop} {Q : Out → Heap → Prop} {K : Heap → Prop} {v : V} {v' : Value}
    (hK : ∀ ι H w, Sim L ι H w → Ext ι0 H0 w0 ι H w → FrRel L ι fr tmps → K H → ∃ v, (results fn tmps).run P w = .ok v w ∧ R (.returned v) w)
    (hP : ∀ ι H w, Sim L ι H w → Ext ι0 H0 w0 ι H w → Rel L ι v v' → Q (.pan v) H → R (.panicked [{ v := v', recovered := false }]) w) :
    ∀ (ds : List (Nat × List V)) (defs : List Deferred) (ι : Im) (H : Heap) (w : World), Sim L ι H w → Ext ι0 H0 w0 ι H w → FrRel L ι fr tmps → Rel L ι v v' → DsRel L ι ds defs → evP pr (SC L P (ndOf pr)) Q K v ds H →
      LeavesM P fn tmps R defs (.panicking [{ v := v', recovered := false }]) w
  | [], defs, ι, H, w, s, x, hf, hv, hd, h => by
    rw [show defs = [] from hd]
    exact hP ι H w s x hv h
  | (g, l) :: r, defs, ι, H, w, s, x, hf, hv, hd, h => by
    rcases hd with hd | ⟨b, c, z, s', rfl, hb, hsh, rfl, hrest⟩
    rotate_left
    · have hp := k.sht g hsh
      have hrec : recOf pr g = none := by unfold recOf; rw [hp]; rfl
      simp only [evP, hrec] at h
      obtain ⟨w', q1, ι', H', s1, x1, hq⟩ := h.2.2.2 hsh ι w b c z rfl s hb
      obtain ⟨_, _, hq⟩ := hq
      exact ⟨by simp, .inl ⟨c, w', rfl, q1, leavesP_sound k s0 hK hP r s' ι' H' w' s1 (x.trans s0 s x1) (hf.mono x1.le) (Rel.mono x1.le _ _ hv) (hrest.mono x1.le) hq⟩⟩
    obtain ⟨caps, args, s', e, hdom, hr, hrest⟩ := hd
    subst e
    refine ⟨by simp, .inr ⟨_, _, _, _, rfl, (by simp only [invoke]; exact run_callFunc k.zero hdom _), ?_⟩⟩
    unfold evP at h
    split at h
    · rename_i F d c hrec
      refine (recB_sound k hdom hrec h s hr hv _ (.panicking [{ v := v', recovered := true }]) (fun c₀ cs hm => .inl (by simp [recoverD, hm]))).mono ?_
      rintro e u' w' ⟨⟨v, rfl⟩, rfl, ι', H', s1, x1, hk⟩
      exact leaves_sound k s0 hK r s' ι' H' w' s1 (x.trans s0 s x1) (hf.mono x1.le) (hrest.mono x1.le) hk
    · obtain ⟨hnd, hc⟩ := h
      refine ((hc.1 hdom ι w (args ++ caps) s hr).2 hnd _).mono ?_
      rintro e u' w' ⟨rfl, ι', H', s1, x1, hm⟩
      cases e with
      | returned v2 =>
        obtain ⟨_, _, hq⟩ := hm
        exact leavesP_sound k s0 hK hP r s' ι' H' w' s1 (x.trans s0 s x1) (hf.mono x1.le) (Rel.mono x1.le _ _ hv) (hrest.mono x1.le) hq
      | panicked chain => obtain ⟨_, _, _, _, hq⟩ := hm; exact hq.elim
      | outgrown => exact hm.elim

/-- **What the abstract machine says of a call holds of the model's.** -/
theorem call_sound {pr : Prog} (k : Linked L P pr) {g : Nat} {l : List V} {H : Heap} {Q : Out → Heap → Prop} (h : Call pr g l H Q) : SC L P (ndOf pr) g l H Q := by
  refine h (SC L P (ndOf pr)) (fun g l H Q hb => ⟨?_, fun ps asg bd nt hρ ι w b c z as vals hl s hb2 hv => ?_, fun hsh ι w b c z hl s hb2 => ?_⟩)
  rotate_left
  · have hrd := k.rds g
    rw [hρ] at hrd
    obtain ⟨c1, d1, h1, h2, h3, h4, h5, h6⟩ := ckRnd_spec (hrd.resolve_left (fun e => by cases e))
    unfold evG at hb
    rw [h1] at hb
    obtain ⟨hlen, hwp⟩ := hb
    rw [hl] at hwp hlen
    simp only [List.length_cons] at hlen
    obtain ⟨f, tmps, q1, q2⟩ := rnd_sound k.zero k.mixed hρ rfl h2 h3 h4 h5 h6 (Nat.succ.inj (by rw [Nat.succ_eq_add_one, hlen, Array.length_toList, Nat.add_comm])) s hb2 hv hwp
    refine ⟨f, tmps, q1, q2.mono fun e w' he => ?_⟩
    obtain ⟨t, ι', H', rfl, s', x', hq⟩ := he
    refine ⟨ι', H', s', x', .bool t, rfl, ?_⟩
    have := hq.2
    simpa [resK, resOf, Fr.get, look, bundle, evDs] using this
  · unfold evG at hb
    rw [k.sht g hsh] at hb
    obtain ⟨_, hwp⟩ := hb
    subst hl
    have hq : shutAt (some (V.ptr (some (b, 0)))) H fun H' => Q (.ret (.tup [])) H' := shutAt_mono (fun H' hk => by simpa [cdShut, resK, resOf, bundle, evDs] using hk) hwp
    unfold shutAt at hq
    simp only at hq
    split at hq
    case h_2 => exact hq.elim
    rename_i hg
    have hok := s.ok _ _ _ _ hb2
    rw [hg] at hok
    obtain ⟨s', x'⟩ := s.setObj (o' := .dead) (x := .deferred none) hb2 (by rw [hg]; intro h; cases h) (fun ⟨l, e⟩ => by rw [hg] at e; cases e) (fun l h => by cases h) trivial
    exact ⟨_, run_takeDeferred hok.2, ι, _, s', x', .tup [], ⟨#[], rfl, rfl⟩, hq⟩
  intro hg ι w args s hargs
  have kk := k.zero
  obtain ⟨F, fn, h1, h2, h3⟩ := k.fn g hg
  unfold evG at hb
  rw [h1] at hb
  rcases h3 with ⟨rr, h3, hrr⟩ | ⟨h3, ho⟩ | ⟨h3, _, _, ho⟩
  case inr.inr =>
    subst h3
    obtain ⟨hlen, hwp⟩ := hb
    have hl : l = [] := List.length_eq_zero_iff.1 hlen
    subst hl
    have ha : args = #[] := Array.toList_inj.1 hargs
    subst ha
    have hq : Q (.ret (.bool true)) H := by
      have := hwp.2
      simpa [cdTrue, resK, resOf, Fr.get, look, bundle, evDs, Fr.put, Fr.keep, keepL, frame0] using this
    have fin : ∀ e w', Grew w e w' → CP L ι H w Q e w' := fun e w' ⟨h1, h2, h3, h4, h5, h6⟩ => by
      subst h1
      obtain ⟨s', x'⟩ := s.grown h2 h3 h4 h5 h6
      exact ⟨ι, H, s', x', .bool true, rfl, hq⟩
    exact ⟨(ho.c w).mono fun e w' he => fin e w' he, fun _ u => (ho.d w u).mono fun e u' w' he => ⟨he.1, fin e w' he.2⟩⟩
  case inr.inl =>
    obtain ⟨q1, q2, q3, q4, _, _⟩ := ckOrc_spec h3
    obtain ⟨hlen, hwp⟩ := hb
    rw [q1] at hwp
    obtain ⟨v, rfl⟩ : ∃ v, l = [v] := List.length_eq_one_iff.1 (hlen.trans q2)
    obtain ⟨x, r, e1, hv, rfl⟩ := hargs
    have : args = #[x] := Array.toList_inj.1 e1
    subst this
    refine ⟨(srt_sound ho (v := v) (K := fun H' => Q (.ret (.tup [])) H') (srt_mono (fun H' hk => ?_) hwp) s hv).mono (fun e w' he => ?_), fun hnd => ?_⟩
    · have := hk.2
      rw [q3] at this
      exact this
    · obtain ⟨rfl, ι', H', s', x', hq⟩ := he
      exact ⟨ι', H', s', x', .tup [], ⟨#[], rfl, rfl⟩, hq⟩
    · simp [ndOf, h1, q4] at hnd
  unfold ckFun at h3
  split at h3
  case h_2 => cases h3
  rename_i c hc
  simp only [Bool.and_eq_true, Bool.not_eq_true', beq_iff_eq, decide_eq_true_eq, Bool.or_eq_true] at h3
  obtain ⟨⟨⟨⟨_, hnt⟩, hnp⟩, hres⟩, hcode⟩ := h3
  obtain ⟨hlen, hwp⟩ := hb
  have hcode : ckCd L P F.nt F.body c = true ∧ (rr = true ∨ noRng F.body = true) := by
    rcases hcode with hcode | hcode
    · exact hcode
    · exfalso
      have h9 := hcode.2
      revert h9 hwp
      cases F.body <;> intro hwp h9 <;> first | exact hwp.elim | (simp [ckTop] at h9; done) | exact absurd hwp id
  have hrg : rngsOk L F.nt F.body c := hcode.2.elim (fun h => hrr h c hc) rngsOk_of
  have hcode := hcode.1
  have hf := frame0_ok (L := L) (ι := ι) hlen hnt hnp hargs
  have hcw := code_sound (nd := ndOf pr) kk k.mixed s F.body c _ _ H ι _ w hcode hrg s (Ext.refl _ _ _) hf hwp
  have fin : ∀ (fr' : Fr) (tmps : Array Value) (ι' : Im) (H' : Heap) (w' : World), Sim L ι' H' w' → Ext ι H w ι' H' w' → FrRel L ι' fr' tmps →
      resK fr' F.res Q H' → ∃ v, (results fn tmps).run P w' = .ok v w' ∧ CP L ι H w Q (.returned v) w' := by
    intro fr' tmps ι' H' w' s' x' hf' hq
    unfold resK at hq
    split at hq
    · rename_i vs hvs
      obtain ⟨x, r1, r2⟩ := results_sound (P := P) s' hf' hres hvs
      exact ⟨x, r1, ι', H', s', x', bundle vs, r2, hq⟩
    · exact hq.elim
  refine ⟨calls_of_marks h2 hc (Go.wp_mono hcw (fun e a' w' he => ?_)), fun hnd u => callsD_of_wp h2 hc (Go.wp_mono hcw (fun e a' w' he => ?_))⟩
  · obtain ⟨ι', fr', H', s', x', hf', hq⟩ := he
    cases e with
    | normal => exact leaves_sound k s (fun ι2 H2 w2 s2 x2 f2 hk => fin fr' a'.tmps ι2 H2 w2 s2 x2 f2 hk) _ _ ι' H' w' s' x' hf'.tm hf'.ds hq.2
    | ret => exact leaves_sound k s (fun ι2 H2 w2 s2 x2 f2 hk => fin fr' a'.tmps ι2 H2 w2 s2 x2 f2 hk) _ _ ι' H' w' s' x' hf'.tm hf'.ds hq.2
    | exit id => exact hq.elim
    | goto l => exact hq.elim
    | panic chain =>
      obtain ⟨v, v', rfl, hv, _, hq⟩ := hq
      exact leavesP_sound k s (fun ι2 H2 w2 s2 x2 f2 hk => fin fr' a'.tmps ι2 H2 w2 s2 x2 f2 hk) (fun ι2 H2 w2 s2 x2 v2 hq2 => ⟨ι2, H2, s2, x2, v, v', rfl, v2, hq2⟩) _ _ ι' H' w' s' x' hf'.tm hv hf'.ds hq
    | outgrown => exact hq.elim
  · obtain ⟨ι', fr', H', s', x', hf', hq⟩ := he
    have hnodef : F.nodef = true := by simpa [ndOf, h1] using hnd
    cases e with
    | normal =>
      have hds := hq.1 hnodef
      have hdd := hf'.ds
      rw [hds] at hdd
      have hq2 := hq.2
      rw [hds] at hq2
      obtain ⟨v, r1, r2⟩ := fin fr' a'.tmps ι' H' w' s' x' hf'.tm hq2
      exact ⟨hdd, v, r1, r2⟩
    | ret =>
      have hds := hq.1 hnodef
      have hdd := hf'.ds
      rw [hds] at hdd
      have hq2 := hq.2
      rw [hds] at hq2
      obtain ⟨v, r1, r2⟩ := fin fr' a'.tmps ι' H' w' s' x' hf'.tm hq2
      exact ⟨hdd, v, r1, r2⟩
    | exit id => exact hq.elim
    | goto l => exact hq.elim
    | panic chain =>
      obtain ⟨v, v', rfl, hv, hds, hq⟩ := hq
      have hdd := hf'.ds
      rw [hds hnodef] at hdd
      rw [hds hnodef] at hq
      exact ⟨hdd, ι', H', s', x', v, v', rfl, hv, hq⟩
    | outgrown => exact hq.elim

/-- **A closed call that the abstract machine lets tell true, from the empty heap, may be taken as one that tells true.** -/
theorem closed_true {pr : Prog} (k : Linked L P pr) {g : Nat} (hd : L.dom g = true) (hnd : ndOf pr g = true) {H0 : Heap} (hn : ∀ b, H0.get b = .dead) (h : Call pr g [] H0 fun o _ => o = .ret (.bool true)) : ClosedTrue P (L.φ g) := by
  have s0 : ∀ w, Sim L (fun _ => none) H0 w := fun w => ⟨fun b _ => hn b, fun _ _ => rfl, (fun _ _ _ _ e => by cases e), (fun _ _ _ _ e => by cases e), fun _ _ _ _ _ _ _ e => by cases e⟩
  have fin : ∀ w e w', CP L (fun _ => none) H0 w (fun o _ => o = .ret (.bool true)) e w' → Grew w e w' := fun w e w' he => by
    obtain ⟨ι', H', s', x', hq⟩ := he
    have tl : (∀ k, k < w.heap.size → w'.heap[k]? = w.heap[k]?) := fun c hc => x'.kept c hc fun b p z e => by cases e
    cases e with
    | returned v' => obtain ⟨v, h1, h2⟩ := hq; cases h2; exact ⟨by rw [show v' = Value.bool true from h1], x'.hs, tl, x'.os, x'.tape, x'.output⟩
    | panicked c => obtain ⟨v, v', _, _, h2⟩ := hq; cases h2
    | outgrown => exact hq.elim
  exact ⟨fun w => (((call_sound k h).1 hd _ w #[] (s0 w) rfl).1).mono fun e w' he => fin w e w' he, fun w u => (((call_sound k h).1 hd _ w #[] (s0 w) rfl).2 hnd u).mono fun e u' w' he => ⟨he.1, fin w e w' he.2⟩⟩
def closeP (pr : Prog) (g : Nat) : Prog := fun x => if x = g then some cdTrue else pr x
theorem Linked.close {pr : Prog} (k : Linked L P pr) {g : Nat} (hd : L.dom g = true) (hc : ClosedTrue P (L.φ g)) (hr : L.ρ g = none := by rfl) (hs : L.sh g = false := by rfl) : Linked L P (closeP pr g) := by
  refine ⟨k.mixed, fun x hx => ?_, fun y => ?_, fun y h => ?_⟩
  rotate_left
  · by_cases e : y = g
    · subst e; exact .inl hr
    · refine (k.rds y).imp_right fun h => ?_
      unfold closeP
      rw [if_neg e]
      exact h
  · have e : y ≠ g := fun e => by subst e; rw [hs] at h; cases h
    unfold closeP
    rw [if_neg e]
    exact k.sht y h
  by_cases e : x = g
  · subst e
    obtain ⟨fn, c, h1, h2, h3⟩ := k.zero.enter x hx
    exact ⟨cdTrue, fn, by unfold closeP; rw [if_pos rfl], h1, .inr (.inr ⟨rfl, h2, by rw [h3]; rfl, hc⟩)⟩
  · obtain ⟨F, fn, h1, h2, h3⟩ := k.fn x hx
    exact ⟨F, fn, by unfold closeP; rw [if_neg e]; exact h1, h2, h3⟩
end Go.Ab
