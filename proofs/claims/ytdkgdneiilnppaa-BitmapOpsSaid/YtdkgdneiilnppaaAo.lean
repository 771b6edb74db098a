/- Code and calls: what the abstract machine says of a call holds of the model's. Conditions: each function's text is checked by program. -/
import Derived.Test.YtdkgdneiilnppaaAn
set_option linter.all false
namespace Go.Ab
variable {L : Lk} {P : Program}

/-! ### A loop, round by round -/
def LoopW (P : Program) (c : Code) (Q : Exit → Act → World → Prop) (a : Act) (w : World) : Prop :=
  ∀ (b : Frame) (k : List Item) (cs : List Frame), ∃ e a' w', Q e a' w' ∧ Arrives P (lone (b.at a (.code c :: .inLoop c :: k)) cs w) b k cs e a' w'

theorem wp_of_loopW {c : Code} {Q : Exit → Act → World → Prop} {a : Act} {w : World} (h : LoopW P c Q a w) : (Code.loop c).wp P Q a w := fun b k cs =>
  let ⟨e, a', w', hq, harr⟩ := h b k cs
  ⟨e, a', w', hq, .of_steps (.one step_loop) harr⟩

theorem loopW_round {c : Code} {Q : Exit → Act → World → Prop} {a : Act} {w : World} (h : c.wp P (Exit.then (LoopW P c Q) Q) a w) : LoopW P c Q a w := by
  intro b k cs
  obtain ⟨e, a₁, w₁, hq, harr⟩ := h b (.inLoop c :: k) cs
  cases e with
  | normal =>
    obtain ⟨e₂, a₂, w₂, hq₂, harr₂⟩ := hq b k cs
    exact ⟨e₂, a₂, w₂, hq₂, .of_steps (Steps.trans harr (.one step_inLoop)) harr₂⟩
  | exit id => exact ⟨_, a₁, w₁, hq, .pass (x := .inLoop c) rfl (fun _ _ => .inl (by simp)) harr⟩
  | goto l => exact ⟨_, a₁, w₁, hq, .pass (x := .inLoop c) rfl (fun _ _ => .inl (by simp)) harr⟩
  | ret => exact ⟨_, a₁, w₁, hq, .pass (x := .inLoop c) rfl (fun _ _ => .inl (by simp)) harr⟩
  | panic ch => exact ⟨_, a₁, w₁, hq, .pass (x := .inLoop c) rfl (fun _ _ => .inl (by simp)) harr⟩
  | outgrown => exact ⟨_, a₁, w₁, hq, .pass (x := .inLoop c) rfl (fun _ _ => .inl (by simp)) harr⟩

/-! ### Code -/
def ckCd (L : Lk) (P : Program) (nt : Nat) : Cd → Code → Bool
  | .skip, .skip => true
  | .reg b _ xs, .region _ ops d => b == d && (if b then ckDraw L P nt ops xs else ckSeq L P nt ops xs ops.toList)
  | .seq a b, .seq c d => ckCd L P nt a c && ckCd L P nt b d
  | .cond c x y, .cond c' x' y' => ckOpd L c c' && ckCd L P nt x x' && ckCd L P nt y y'
  | .block id c, .block id' c' => id == id' && ckCd L P nt c c'
  | .loop _ c, .loop c' => ckCd L P nt c c'
  | .exit id, .exit id' => id == id'
  | .ret, .ret => true
  | _, _ => false

section
variable {nd : Nat → Bool} {nt : Nat} {ι0 : Im} {H0 : Heap} {w0 : World}

theorem code_sound (kk : Linked0 L P) (hm : P.follows .mixedOrders = true) (s0 : Sim L ι0 H0 w0) : ∀ (c : Cd) (c' : Code) (Q : Post) (fr : Fr) (H : Heap) (ι : Im) (a : Act) (w : World), ckCd L P nt c c' = true → Sim L ι H w → Ext ι0 H0 w0 ι H w →
    FrOk L nt ι fr a → wpC (SC L P nd) c Q fr H → c'.wp P (LQ L nt ι0 H0 w0 Q) a w
  | .skip, c', Q, fr, H, ι, a, w, hc, s, x, hf, h => by
    cases c' <;> simp only [ckCd] at hc <;> try cases hc
    exact wp_skip ⟨ι, fr, H, s, x, hf, h⟩
  | .reg false live xs, c', Q, fr, H, ι, a, w, hc, s, x, hf, h => by
    cases c' <;> simp only [ckCd] at hc <;> try cases hc
    rename_i id ops draw
    obtain ⟨hd, hc⟩ := and2 hc
    have hd : false = draw := by simpa using hd
    subst hd
    exact wp_region_list (evOps_sound kk s0 (K := fun fr H => Q .normal (fr.keep live) H) (X := fun fr v H => Q (.pan v) ⟨[], fr.ds⟩ H) (fun fr H h => ⟨live, h⟩) (fun _ _ _ h => h) xs ops.toList fr H ι a w hc s x hf h)
  | .reg true live xs, c', Q, fr, H, ι, a, w, hc, s, x, hf, h => by
    cases c' <;> simp only [ckCd] at hc <;> try cases hc
    rename_i id ops draw
    obtain ⟨hd, hc⟩ := and2 hc
    have hd : true = draw := by simpa using hd
    subst hd
    exact draw_sound kk (K := fun fr H => Q .normal (fr.keep live) H) (X := fun fr v H => Q (.pan v) ⟨[], fr.ds⟩ H) hm hc (fun fr H h => ⟨live, h⟩) (fun _ _ _ h => h) s0 s x hf h
  | .seq c d, c', Q, fr, H, ι, a, w, hc, s, x, hf, h => by
    cases c' <;> simp only [ckCd] at hc <;> try cases hc
    simp only [Bool.and_eq_true] at hc
    refine wp_seq (Go.wp_mono (code_sound kk hm s0 c _ _ fr H ι a w hc.1 s x hf h) (fun e a' w' he => ?_))
    obtain ⟨ι', fr', H', s', x', hf', hq⟩ := he
    cases e with
    | normal => exact code_sound kk hm s0 d _ Q fr' H' ι' a' w' hc.2 s' x' hf' hq
    | exit id => exact ⟨ι', fr', H', s', x', hf', hq⟩
    | goto l => exact ⟨ι', fr', H', s', x', hf', hq⟩
    | ret => exact ⟨ι', fr', H', s', x', hf', hq⟩
    | panic ch => exact ⟨ι', fr', H', s', x', hf', hq⟩
    | outgrown => exact ⟨ι', fr', H', s', x', hf', hq⟩
  | .cond q c d, c', Q, fr, H, ι, a, w, hc, s, x, hf, h => by
    cases c' <;> simp only [ckCd] at hc <;> try cases hc
    simp only [Bool.and_eq_true] at hc
    obtain ⟨⟨h1, h2⟩, h3⟩ := hc
    simp only [wpC] at h
    split at h
    · rename_i b hb
      have hv := opd_rel hf.tm h1 hb
      unfold gif at h
      refine wp_cond_split hv (fun ht => ?_) (fun ht => ?_)
      · subst ht; rw [if_pos rfl] at h; exact code_sound kk hm s0 c _ Q fr H ι a w h2 s x hf h
      · subst ht; rw [if_neg (by simp)] at h; exact code_sound kk hm s0 d _ Q fr H ι a w h3 s x hf h
    · exact h.elim
  | .block id c, c', Q, fr, H, ι, a, w, hc, s, x, hf, h => by
    cases c' <;> simp only [ckCd] at hc <;> try cases hc
    simp only [Bool.and_eq_true, beq_iff_eq] at hc
    obtain ⟨rfl, hc⟩ := hc
    refine wp_block (Go.wp_mono (code_sound kk hm s0 c _ _ fr H ι a w hc s x hf h) (fun e a' w' he => ?_))
    obtain ⟨ι', fr', H', s', x', hf', hq⟩ := he
    cases e with
    | normal => exact ⟨ι', fr', H', s', x', hf', hq⟩
    | exit i =>
      simp only [Exit.inBlock]
      dsimp only at hq
      split
      · rename_i hi; rw [if_pos hi] at hq; exact ⟨ι', fr', H', s', x', hf', hq⟩
      · rename_i hi; rw [if_neg hi] at hq; exact ⟨ι', fr', H', s', x', hf', hq⟩
    | goto l => exact ⟨ι', fr', H', s', x', hf', hq⟩
    | ret => exact ⟨ι', fr', H', s', x', hf', hq⟩
    | panic ch => exact ⟨ι', fr', H', s', x', hf', hq⟩
    | outgrown => exact ⟨ι', fr', H', s', x', hf', hq⟩
  | .loop live c, c', Q, fr, H, ι, a, w, hc, s, x, hf, h => by
    cases c' <;> simp only [ckCd] at hc <;> try cases hc
    rename_i c'
    refine wp_of_loopW ?_
    have key : ∀ fr H, wpC (SC L P nd) c (fun e fr' H' => match e with
        | .normal => ∀ ι a w, Sim L ι H' w → Ext ι0 H0 w0 ι H' w → FrOk L nt ι fr' a → LoopW P c' (LQ L nt ι0 H0 w0 Q) a w
        | e => Q e fr' H') (fr.keep live) H → ∀ ι a w, Sim L ι H w → Ext ι0 H0 w0 ι H w → FrOk L nt ι fr a → LoopW P c' (LQ L nt ι0 H0 w0 Q) a w := by
      intro fr H h ι a w s x hf
      refine loopW_round (Go.wp_mono (code_sound kk hm s0 c c' _ (fr.keep live) H ι a w hc s x (hf.keep live) h) (fun e a' w' he => ?_))
      obtain ⟨ι', fr', H', s', x', hf', hq⟩ := he
      cases e with
      | normal => exact hq ι' a' w' s' x' hf'
      | exit id => exact ⟨ι', fr', H', s', x', hf', hq⟩
      | goto l => exact ⟨ι', fr', H', s', x', hf', hq⟩
      | ret => exact ⟨ι', fr', H', s', x', hf', hq⟩
      | panic ch => exact ⟨ι', fr', H', s', x', hf', hq⟩
      | outgrown => exact ⟨ι', fr', H', s', x', hf', hq⟩
    exact h (fun fr H => ∀ ι a w, Sim L ι H w → Ext ι0 H0 w0 ι H w → FrOk L nt ι fr a → LoopW P c' (LQ L nt ι0 H0 w0 Q) a w) key ι a w s x hf
  | .exit id, c', Q, fr, H, ι, a, w, hc, s, x, hf, h => by
    cases c' <;> simp only [ckCd] at hc <;> try cases hc
    simp only [beq_iff_eq] at hc
    subst hc
    exact wp_exit ⟨ι, fr, H, s, x, hf, h⟩
  | .ret, c', Q, fr, H, ι, a, w, hc, s, x, hf, h => by
    cases c' <;> simp only [ckCd] at hc <;> try cases hc
    exact Go.wp_ret ⟨ι, fr, H, s, x, hf, h⟩
end

/-! ### Results -/
def ckRes (L : Lk) (P : Program) (nt : Nat) : List ARes → List ResultVar → Bool
  | [], [] => true
  | .t n :: r, .tmp m :: s => n == m && ckRes L P nt r s
  | .cell n sz :: r, .cell m t :: s => n == m && ckAgg P t sz && ckRes L P nt r s
  | _, _ => false

def resOne (tmps : Array Value) : ResultVar → Sem Value
  | .tmp t => pure (tmps.getD t undef)
  | .cell a t => do loadVar t (← asAddr (tmps.getD a undef))

theorem results_eq (fn : Func) (tmps : Array Value) : results fn tmps = (fn.results.mapM (resOne tmps) >>= fun vs => pure (if h : vs.size = 1 then vs[0] else .tuple vs)) := by
  unfold results
  congr 2

theorem res_sound {ι : Im} {H : Heap} {w : World} {fr : Fr} {tmps : Array Value} {nt : Nat} (s : Sim L ι H w) (hf : FrRel L ι fr tmps) : ∀ {rs : List ARes} {vs : List V} {rv : List ResultVar}, ckRes L P nt rs rv = true → resOf fr H rs = some vs →
    ∃ ws : List Value, (rv.mapM (resOne tmps)).run P w = .ok ws w ∧ RelL L ι vs ws
  | [], vs, [], _, h => by cases h; exact ⟨[], rfl, rfl⟩
  | [], vs, _ :: _, hc, _ => by simp [ckRes] at hc
  | .t n :: rs, vs, [], hc, _ => by simp [ckRes] at hc
  | .cell n sz :: rs, vs, [], hc, _ => by simp [ckRes] at hc
  | .t n :: rs, vs, .tmp m :: rv, hc, h => by
    simp only [ckRes, Bool.and_eq_true, beq_iff_eq] at hc
    obtain ⟨rfl, hc⟩ := hc
    simp only [resOf] at h
    split at h
    · rename_i v l e1 e2
      cases h
      obtain ⟨v', k1, k2⟩ := hf n v e1
      obtain ⟨ws, r1, r2⟩ := res_sound s hf hc e2
      refine ⟨v' :: ws, ?_, v', ws, rfl, k2, r2⟩
      rw [List.mapM_cons, Sem.run_bind]
      simp only [resOne, Array.getD_eq_getD_getElem?, k1, Option.getD_some, Sem.run_pure, Result.andThen_ok, Sem.run_bind, r1]
    · cases h
  | .cell n sz :: rs, vs, .cell m t :: rv, hc, h => by
    simp only [ckRes, Bool.and_eq_true, beq_iff_eq] at hc
    obtain ⟨⟨rfl, hag⟩, hc⟩ := hc
    simp only [resOf] at h
    split at h
    · rename_i b o l e1 e2
      simp only [Option.map_eq_some_iff] at h
      obtain ⟨v, h1, rfl⟩ := h
      obtain ⟨v', k1, c, p, z, k2, rfl⟩ := hf n _ e1
      obtain ⟨ws, r1, r2⟩ := res_sound s hf hc e2
      have hload : ∃ x, (loadVar t ⟨c, p + o, none⟩).run P w = .ok x w ∧ Rel L ι v x := by
        unfold ckAgg at hag
        split at hag
        · rename_i d0 hd
          cases sz with
          | none =>
            simp only [Bool.not_eq_true'] at hag
            obtain ⟨x, q1, q2⟩ := s.load1 k2 h1
            exact ⟨x, by simp only [loadVar, Sem.run_bind, r_isAgg hd, Result.andThen_ok, hag, Bool.false_eq_true, if_false, run_load_some q1], q2⟩
          | some n =>
            obtain ⟨ha, hi⟩ := and2 hag
            simp only [Option.any_eq_true, beq_iff_eq] at hi
            obtain ⟨i, hi1, hi2⟩ := hi
            obtain ⟨arr, q1, q2⟩ := s.loadN (P := P) k2 h1
            exact ⟨.agg arr, by simp only [loadVar, Sem.run_bind, r_isAgg hd, Result.andThen_ok, ha, if_true, r_size hi1, hi2, q1, Sem.run_pure], q2⟩
        · cases hag
      obtain ⟨x, q1, q2⟩ := hload
      refine ⟨x :: ws, ?_, x, ws, rfl, q2, r2⟩
      rw [List.mapM_cons, Sem.run_bind]
      simp only [resOne, Array.getD_eq_getD_getElem?, k1, Option.getD_some, asAddr, Sem.run_pure, Result.andThen_ok, Sem.run_bind, q1, r1]
    · cases h
  | .t n :: rs, vs, .cell m t :: rv, hc, _ => by simp [ckRes] at hc
  | .cell n sz :: rs, vs, .tmp m :: rv, hc, _ => by simp [ckRes] at hc

theorem results_sound {ι : Im} {H : Heap} {w : World} {fr : Fr} {tmps : Array Value} {nt : Nat} {fn : Func} {rs : List ARes} {vs : List V} (s : Sim L ι H w) (hf : FrRel L ι fr tmps) (hc : ckRes L P nt rs fn.results.toList = true)
    (h : resOf fr H rs = some vs) : ∃ x, (results fn tmps).run P w = .ok x w ∧ Rel L ι (bundle vs) x := by
  obtain ⟨ws, h1, h2⟩ := res_sound (P := P) s hf hc h
  have hrun : (results fn tmps).run P w = .ok (if hh : ws.toArray.size = 1 then ws.toArray[0] else .tuple ws.toArray) w := by
    rw [results_eq, Sem.run_bind, Array.mapM_eq_mapM_toList, Sem.run_map, h1]
    rfl
  refine ⟨_, hrun, ?_⟩
  match vs, ws, h2 with
  | [], ws, h2 => rw [show ws = [] from h2]; exact ⟨#[], rfl, rfl⟩
  | [v], _, ⟨y, s, e, hr, ht⟩ => rw [e, show s = [] from ht]; exact hr
  | v :: v2 :: r, _, ⟨y, s, e, hr, y2, s2, e2, hr2, ht⟩ =>
    subst e e2
    rw [dif_neg (by simp)]
    exact ⟨_, rfl, y, _, rfl, hr, y2, _, rfl, hr2, ht⟩

/-! ### Functions -/
def ckFun (L : Lk) (P : Program) (F : AFun) (fn : Func) : Bool :=
  match fn.body with
  | some c => !(fn.name == "runtime.NumGoroutine") && fn.ntmps == F.nt && decide (F.np ≤ F.nt) && ckRes L P F.nt F.res fn.results.toList && ckCd L P F.nt F.body c
  | none => false

structure Linked (L : Lk) (P : Program) (pr : Prog) : Prop where
  mixed : P.follows .mixedOrders = true
  fn : ∀ g, L.dom g = true → ∃ F fn, pr g = some F ∧ P.funcs[L.φ g]? = some fn ∧ ckFun L P F fn = true

theorem Linked.zero {pr : Prog} (k : Linked L P pr) : Linked0 L P := ⟨fun g hg => by
  obtain ⟨F, fn, _, h2, h3⟩ := k.fn g hg
  unfold ckFun at h3
  split at h3
  · rename_i c hc
    simp only [Bool.and_eq_true, Bool.not_eq_true'] at h3
    exact ⟨fn, c, h2, h3.1.1.1.1, hc⟩
  · cases h3⟩

theorem frame0_get : ∀ (l : List V) (n t : Nat) (v : V), look (frame0 n l) t = some v → n ≤ t ∧ l[t - n]? = some v
  | [], n, t, v, h => by cases h
  | x :: l, n, t, v, h => by
    simp only [frame0, look] at h
    split at h
    · rename_i e; subst e; cases h; simp
    · rename_i e
      obtain ⟨h1, h2⟩ := frame0_get l (n + 1) t v h
      refine ⟨by omega, ?_⟩
      rw [show t - n = (t - (n + 1)) + 1 by omega, List.getElem?_cons_succ]; exact h2

theorem leaves_sound {nd : Nat → Bool} {ι0 : Im} {H0 : Heap} {w0 : World} (kk : Linked0 L P) (s0 : Sim L ι0 H0 w0) {fn : Func} {tmps : Array Value} {fr : Fr} {R : Ending → World → Prop} {K : Heap → Prop}
    (hK : ∀ ι H w, Sim L ι H w → Ext ι0 H0 w0 ι H w → FrRel L ι fr tmps → K H → ∃ v, (results fn tmps).run P w = .ok v w ∧ R (.returned v) w) :
    ∀ (ds : List (Nat × List V)) (defs : List Deferred) (ι : Im) (H : Heap) (w : World), Sim L ι H w → Ext ι0 H0 w0 ι H w → FrRel L ι fr tmps → DsRel L ι ds defs → evDs nd (SC L P nd) K ds H → Leaves P fn tmps R defs .returning w
  | [], defs, ι, H, w, s, x, hf, hd, h => by
    rw [show defs = [] from hd]
    exact hK ι H w s x hf h
  | (g, l) :: r, defs, ι, H, w, s, x, hf, hd, h => by
    obtain ⟨caps, args, s', e, hdom, hr, hrest⟩ := hd
    subst e
    obtain ⟨hnd, hc⟩ := h
    refine leaves_cons (by simp) (by simp only [invoke]; exact run_callFunc kk hdom _) ?_
    refine ((hc hdom ι w (args ++ caps) s hr).2 hnd .returning).mono ?_
    rintro e u' w' ⟨rfl, ι', H', s1, x1, hm⟩
    cases e with
    | returned v' =>
      obtain ⟨v, _, hq⟩ := hm
      exact leaves_sound kk s0 hK r s' ι' H' w' s1 (x.trans s0 s x1) (hf.mono x1.le) (hrest.mono x1.le) hq
    | panicked chain => obtain ⟨v, v', _, _, hq⟩ := hm; exact hq.elim
    | outgrown => exact hm.elim

/-- **What the abstract machine says of a call holds of the model's.** -/
theorem call_sound {pr : Prog} (k : Linked L P pr) {g : Nat} {l : List V} {H : Heap} {Q : Out → Heap → Prop} (h : Call pr g l H Q) : SC L P (ndOf pr) g l H Q := by
  refine h (SC L P (ndOf pr)) (fun g l H Q hb => ?_)
  intro hg ι w args s hargs
  have kk := k.zero
  obtain ⟨F, fn, h1, h2, h3⟩ := k.fn g hg
  unfold evG at hb
  rw [h1] at hb
  unfold ckFun at h3
  split at h3
  case h_2 => cases h3
  rename_i c hc
  simp only [Bool.and_eq_true, Bool.not_eq_true', beq_iff_eq, decide_eq_true_eq] at h3
  obtain ⟨⟨⟨⟨_, hnt⟩, hnp⟩, hres⟩, hcode⟩ := h3
  obtain ⟨hlen, hwp⟩ := hb
  have hasz : args.size = F.np := by rw [← Array.length_toList, ← hargs.length, hlen]
  have hf : FrOk L F.nt ι ⟨frame0 0 l, []⟩ { tmps := args ++ Array.replicate (fn.ntmps - args.size) undef, defers := [] } := by
    refine ⟨by simp [hnt, hasz]; omega, fun t v hv => ?_, rfl⟩
    obtain ⟨_, h5⟩ := frame0_get l 0 t v hv
    obtain ⟨v', h6, h7⟩ := hargs.get h5
    refine ⟨v', ?_, h7⟩
    have hlt : t < args.size := by rw [← Array.length_toList]; exact (List.getElem?_eq_some_iff.1 h6).1
    rw [Array.getElem?_append_left hlt]
    rw [Array.getElem?_toList] at h6; exact h6
  have hcw := code_sound (nd := ndOf pr) kk k.mixed s F.body c _ _ H ι _ w hcode s (Ext.refl _ _ _) hf hwp
  have fin : ∀ (fr' : Fr) (tmps : Array Value) (ι' : Im) (H' : Heap) (w' : World), Sim L ι' H' w' → Ext ι H w ι' H' w' → FrRel L ι' fr' tmps →
      (match resOf fr' H' F.res with | some vs => Q (.ret (bundle vs)) H' | none => False) → ∃ v, (results fn tmps).run P w' = .ok v w' ∧ CP L ι H w Q (.returned v) w' := by
    intro fr' tmps ι' H' w' s' x' hf' hq
    split at hq
    · rename_i vs hvs
      obtain ⟨x, r1, r2⟩ := results_sound (P := P) s' hf' hres hvs
      exact ⟨x, r1, ι', H', s', x', bundle vs, r2, hq⟩
    · exact hq.elim
  refine ⟨calls_of_wp_defers h2 hc (Go.wp_mono hcw (fun e a' w' he => ?_)), fun hnd u => callsD_of_wp h2 hc (Go.wp_mono hcw (fun e a' w' he => ?_))⟩
  · obtain ⟨ι', fr', H', s', x', hf', hq⟩ := he
    cases e with
    | normal => exact leaves_sound kk s (fun ι2 H2 w2 s2 x2 f2 hk => fin fr' a'.tmps ι2 H2 w2 s2 x2 f2 hk) _ _ ι' H' w' s' x' hf'.tm hf'.ds hq.2
    | ret => exact leaves_sound kk s (fun ι2 H2 w2 s2 x2 f2 hk => fin fr' a'.tmps ι2 H2 w2 s2 x2 f2 hk) _ _ ι' H' w' s' x' hf'.tm hf'.ds hq.2
    | exit id => exact hq.elim
    | goto l => exact hq.elim
    | panic chain =>
      obtain ⟨v, v', rfl, hv, hds, hq⟩ := hq
      have hdd := hf'.ds
      rw [hds] at hdd
      show Leaves P fn a'.tmps _ a'.defers _ w'
      rw [show a'.defers = [] from hdd]
      exact ⟨ι', H', s', x', v, v', rfl, hv, hq⟩
    | outgrown => exact hq.elim
  · obtain ⟨ι', fr', H', s', x', hf', hq⟩ := he
    have hnodef : F.nodef = true := by simpa [ndOf, h1] using hnd
    cases e with
    | normal =>
      have hds := hq.1 hnodef
      have hdd := hf'.ds
      rw [hds] at hdd
      have hq2 := hq.2
      rw [hds] at hq2
      obtain ⟨v, r1, r2⟩ := fin fr' a'.tmps ι' H' w' s' x' hf'.tm hq2
      exact ⟨hdd, v, r1, r2⟩
    | ret =>
      have hds := hq.1 hnodef
      have hdd := hf'.ds
      rw [hds] at hdd
      have hq2 := hq.2
      rw [hds] at hq2
      obtain ⟨v, r1, r2⟩ := fin fr' a'.tmps ι' H' w' s' x' hf'.tm hq2
      exact ⟨hdd, v, r1, r2⟩
    | exit id => exact hq.elim
    | goto l => exact hq.elim
    | panic chain =>
      obtain ⟨v, v', rfl, hv, hds, hq⟩ := hq
      have hdd := hf'.ds
      rw [hds] at hdd
      exact ⟨hdd, ι', H', s', x', v, v', rfl, hv, hq⟩
    | outgrown => exact hq.elim

end Go.Ab
