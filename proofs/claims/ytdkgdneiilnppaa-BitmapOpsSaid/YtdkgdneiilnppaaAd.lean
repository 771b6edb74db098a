/- How an abstract value, an abstract heap stand to the model's: the relations, and what keeps them. Conditions: none. -/
import Derived.Test.YtdkgdneiilnppaaAc
import Derived.Laws.Sem
import Derived.Orders
set_option linter.all false
namespace Go.Ab

structure Lk where
  φ : Nat → FuncId
  τ : Nat → TypeId
  dom : Nat → Bool

abbrev Im := Nat → Option (Nat × Nat × Nat)

mutual
def Rel (L : Lk) (ι : Im) : V → Value → Prop
  | .bool b, w => w = .bool b
  | .int k n, w => w = .int k n
  | .flt k b, w => w = .float k b
  | .str s, w => w = .string s
  | .ptr none, w => w = .pointer none
  | .ptr (some (b, o)), w => ∃ c p z, ι b = some (c, p, z) ∧ w = .pointer (some ⟨c, p + o, none⟩)
  | .sl none len cap _, w => len = 0 ∧ cap = 0 ∧ w = .slice none 0 0
  | .sl (some (b, o)) len cap e, w => len ≤ cap ∧ ∃ A cap', w = .slice (some A) len cap' ∧ cap ≤ cap' ∧ (0 < cap' → ∃ c p z q, ι b = some (c, p, z) ∧ A = ⟨c, q, none⟩ ∧ q + cap' * e ≤ z ∧ (0 < cap → q = p + o))
  | .map none, w => w = .map none
  | .map (some r), w => ∃ c z, ι r = some (c, 0, z) ∧ w = .map (some c)
  | .fn g f c, w => ∃ fs cs, w = .func (.func (L.φ g)) fs cs ∧ L.dom g = true ∧ RelL L ι f fs.toList ∧ RelL L ι c cs.toList
  | .nilfn, w => w = .nilFunc
  | .ifc t v, w => ∃ x, w = .iface (L.τ t) x ∧ Rel L ι v x
  | .nilifc, w => w = .nilIface
  | .agg l, w => ∃ vs : Array Value, w = .agg vs ∧ RelL L ι l vs.toList
  | .tup l, w => ∃ vs : Array Value, w = .tuple vs ∧ RelL L ι l vs.toList
  | .un, _ => True
def RelL (L : Lk) (ι : Im) : List V → List Value → Prop
  | [], ws => ws = []
  | v :: r, ws => ∃ w s, ws = w :: s ∧ Rel L ι v w ∧ RelL L ι r s
end

def ILe (ι ι' : Im) : Prop := ∀ b x, ι b = some x → ι' b = some x
theorem ILe.refl (ι : Im) : ILe ι ι := fun _ _ h => h
theorem ILe.trans {a b c : Im} (h : ILe a b) (k : ILe b c) : ILe a c := fun x y e => k x y (h x y e)

mutual
theorem Rel.mono {L : Lk} {ι ι' : Im} (h : ILe ι ι') : ∀ (v : V) (w : Value), Rel L ι v w → Rel L ι' v w
  | .bool b, w, r => r
  | .int k n, w, r => r
  | .flt k b, w, r => r
  | .str s, w, r => r
  | .ptr none, w, r => r
  | .ptr (some (b, o)), w, ⟨c, p, z, e, r⟩ => ⟨c, p, z, h _ _ e, r⟩
  | .sl none len cap _, w, r => r
  | .sl (some (b, o)) len cap e, w, ⟨hl, A, cap', e1, hc, r⟩ => ⟨hl, A, cap', e1, hc, fun hp => let ⟨c, p, z, q, e2, r2⟩ := r hp; ⟨c, p, z, q, h _ _ e2, r2⟩⟩
  | .map none, w, r => r
  | .map (some x), w, ⟨c, z, e, r⟩ => ⟨c, z, h _ _ e, r⟩
  | .fn g f c, w, ⟨fs, cs, e, d, r, s⟩ => ⟨fs, cs, e, d, RelL.mono h f _ r, RelL.mono h c _ s⟩
  | .nilfn, w, r => r
  | .ifc t v, w, ⟨x, e, r⟩ => ⟨x, e, Rel.mono h v x r⟩
  | .nilifc, w, r => r
  | .agg l, w, ⟨vs, e, r⟩ => ⟨vs, e, RelL.mono h l _ r⟩
  | .tup l, w, ⟨vs, e, r⟩ => ⟨vs, e, RelL.mono h l _ r⟩
  | .un, _, _ => trivial
theorem RelL.mono {L : Lk} {ι ι' : Im} (h : ILe ι ι') : ∀ (v : List V) (w : List Value), RelL L ι v w → RelL L ι' v w
  | [], w, r => r
  | v :: l, w, ⟨x, s, e, r, t⟩ => ⟨x, s, e, Rel.mono h v x r, RelL.mono h l s t⟩
end

theorem RelL.length {L : Lk} {ι : Im} : ∀ {v : List V} {w : List Value}, RelL L ι v w → v.length = w.length
  | [], w, r => by rw [show w = [] from r]; rfl
  | _ :: _, _, ⟨_, _, e, _, t⟩ => by rw [e, List.length_cons, List.length_cons, t.length]

theorem RelL.get {L : Lk} {ι : Im} : ∀ {v : List V} {w : List Value} {i : Nat} {x : V}, RelL L ι v w → v[i]? = some x → ∃ y, w[i]? = some y ∧ Rel L ι x y
  | _ :: _, _, 0, _, ⟨y, s, e, r, _⟩, h => by
    rw [List.getElem?_cons_zero] at h; cases h; exact ⟨y, by rw [e]; rfl, r⟩
  | _ :: _, _, i + 1, _, ⟨y, s, e, _, t⟩, h => by
    rw [List.getElem?_cons_succ] at h
    obtain ⟨z, hz, hr⟩ := t.get h
    exact ⟨z, by rw [e]; exact hz, hr⟩

theorem RelL.of_get {L : Lk} {ι : Im} : ∀ {v : List V} {w : List Value}, v.length = w.length → (∀ (i : Nat) (x : V), v[i]? = some x → ∃ y, w[i]? = some y ∧ Rel L ι x y) → RelL L ι v w
  | [], [], _, _ => rfl
  | v :: l, y :: s, hl, h => by
    obtain ⟨y', e, r⟩ := h 0 v rfl
    cases e
    refine ⟨y, s, rfl, r, RelL.of_get (by simpa using hl) fun i x hx => ?_⟩
    obtain ⟨z, hz, hr⟩ := h (i + 1) x (by simpa using hx)
    exact ⟨z, by simpa using hz, hr⟩

theorem RelL.append {L : Lk} {ι : Im} : ∀ {v v' : List V} {w w' : List Value}, RelL L ι v w → RelL L ι v' w' → RelL L ι (v ++ v') (w ++ w')
  | [], _, _, _, h, k => by rw [show _ = [] from h]; exact k
  | _ :: _, _, _, _, ⟨y, s, e, r, t⟩, k => ⟨y, s ++ _, by rw [e]; rfl, r, t.append k⟩

theorem RelL.take {L : Lk} {ι : Im} : ∀ {v : List V} {w : List Value} (n : Nat), RelL L ι v w → RelL L ι (v.take n) (w.take n)
  | [], _, n, h => by rw [show _ = [] from h]; simp [RelL]
  | _ :: _, _, 0, _ => rfl
  | _ :: _, _, n + 1, ⟨y, s, e, r, t⟩ => ⟨y, s.take n, by rw [e]; rfl, r, t.take n⟩

theorem RelL.drop {L : Lk} {ι : Im} : ∀ {v : List V} {w : List Value} (n : Nat), RelL L ι v w → RelL L ι (v.drop n) (w.drop n)
  | [], _, n, h => by rw [show _ = [] from h]; simp [RelL]
  | _ :: _, _, 0, h => h
  | _ :: _, _, n + 1, ⟨y, s, e, r, t⟩ => by rw [e]; exact t.drop n

/-- A value's cells, if their number is told and is not 0. -/
theorem Rel.cells {L : Lk} {ι : Im} {v : V} {w : Value} (h : Rel L ι v w) (hn : 0 < v.cells.length) : RelL L ι v.cells w.cells.toList := by
  cases v with
  | agg l => obtain ⟨vs, rfl, r⟩ := h; exact r
  | un => simp [V.cells] at hn
  | ptr a => cases a with
    | none => exact ⟨w, [], by cases h; rfl, h, rfl⟩
    | some a => obtain ⟨c, p, z, e, rfl⟩ := h; exact ⟨_, [], rfl, ⟨c, p, z, e, rfl⟩, rfl⟩
  | sl a len cap e => cases a with
    | none => exact ⟨w, [], by rw [h.2.2]; rfl, h, rfl⟩
    | some a => obtain ⟨hl, A, cap', rfl, r⟩ := h; exact ⟨_, [], rfl, ⟨hl, A, cap', rfl, r⟩, rfl⟩
  | map a => cases a with
    | none => exact ⟨w, [], by cases h; rfl, h, rfl⟩
    | some a => obtain ⟨c, z, e, rfl⟩ := h; exact ⟨_, [], rfl, ⟨c, z, e, rfl⟩, rfl⟩
  | fn g f c => obtain ⟨fs, cs, rfl, r⟩ := h; exact ⟨_, [], rfl, ⟨fs, cs, rfl, r⟩, rfl⟩
  | ifc t x => obtain ⟨y, rfl, r⟩ := h; exact ⟨_, [], rfl, ⟨y, rfl, r⟩, rfl⟩
  | tup l => obtain ⟨vs, rfl, r⟩ := h; exact ⟨_, [], rfl, ⟨vs, rfl, r⟩, rfl⟩
  | _ => cases h; exact ⟨_, [], rfl, rfl, rfl⟩

theorem Rel.one {L : Lk} {ι : Im} {v : V} {w : Value} (h : Rel L ι v w) (ho : one v = true) : w.oneCell' = true := by
  cases v with
  | agg l => cases ho
  | un => cases ho
  | tup l => cases ho
  | ptr a => cases a with
    | none => cases h; rfl
    | some a => obtain ⟨c, p, z, e, rfl⟩ := h; rfl
  | sl a len cap e => cases a with
    | none => rw [h.2.2]; rfl
    | some a => obtain ⟨hl, A, cap', rfl, r⟩ := h; rfl
  | map a => cases a with
    | none => cases h; rfl
    | some a => obtain ⟨c, z, e, rfl⟩ := h; rfl
  | fn g f c => obtain ⟨fs, cs, rfl, r⟩ := h; rfl
  | ifc t x => obtain ⟨y, rfl, r⟩ := h; rfl
  | _ => cases h; rfl

/-- Entries of a map, in their order. -/
def RelE (L : Lk) (ι : Im) : List (V × V) → List MapEntry → Prop
  | [], ws => ws = []
  | (k, v) :: r, ws => ∃ e s, ws = e :: s ∧ Rel L ι k e.key ∧ Rel L ι v e.val ∧ RelE L ι r s

theorem RelE.mono {L : Lk} {ι ι' : Im} (h : ILe ι ι') : ∀ (v : List (V × V)) (w : List MapEntry), RelE L ι v w → RelE L ι' v w
  | [], _, r => r
  | (_, _) :: l, _, ⟨x, s, e, r, t, u⟩ => ⟨x, s, e, Rel.mono h _ _ r, Rel.mono h _ _ t, RelE.mono h l s u⟩

/-- How a block stands to the model's. -/
def Okay (L : Lk) (ι : Im) (p z : Nat) : Obj → Option Go.Obj → Prop
  | .cells l wr, x => ∃ arr ty fz, x = some (.cells arr ty fz) ∧ arr.size = z ∧ p + l.length ≤ z ∧ (wr = true → fz.2 ≤ fz.1) ∧ ∀ i v, l[i]? = some v → ∃ v', arr[p + i]? = some v' ∧ Rel L ι v v'
  | .map es, x => ∃ es' clock, x = some (.map es' clock) ∧ RelE L ι es es'.toList
  | .dead, _ => True

theorem Okay.mono {L : Lk} {ι ι' : Im} (h : ILe ι ι') {p z : Nat} {o : Obj} {x : Option Go.Obj} (r : Okay L ι p z o x) : Okay L ι' p z o x := by
  cases o with
  | cells l wr =>
    obtain ⟨arr, ty, fz, e, e2, e3, e4, e5⟩ := r
    exact ⟨arr, ty, fz, e, e2, e3, e4, fun i v hv => let ⟨v', h1, h2⟩ := e5 i v hv; ⟨v', h1, Rel.mono h _ _ h2⟩⟩
  | map es => obtain ⟨es', clock, e, r⟩ := r; exact ⟨es', clock, e, RelE.mono h _ _ r⟩
  | dead => trivial

def RO (H : Heap) (b : Nat) : Prop := ∃ l, H.get b = .cells l false

structure Sim (L : Lk) (ι : Im) (H : Heap) (w : World) : Prop where
  dn : ∀ b, H.next ≤ b → H.get b = .dead
  nx : ∀ b, H.next ≤ b → ι b = none
  lt : ∀ b c p z, ι b = some (c, p, z) → c < w.heap.size
  ok : ∀ b c p z, ι b = some (c, p, z) → Okay L ι p z (H.get b) w.heap[c]?
  inj : ∀ b b' c p z p' z', ι b = some (c, p, z) → ι b' = some (c, p', z') → H.get b ≠ .dead → H.get b' ≠ .dead → ¬ RO H b → b = b'

structure Ext (ι : Im) (H : Heap) (w : World) (ι' : Im) (H' : Heap) (w' : World) : Prop where
  le : ILe ι ι'
  hs : w.heap.size ≤ w'.heap.size
  hn : H.next ≤ H'.next
  ro : ∀ b l, b < H.next → H.get b = .cells l false → H'.get b = .cells l false
  new : ∀ b c p z, ι b = none → ι' b = some (c, p, z) → w.heap.size ≤ c ∨ ∃ b0 p0 z0, ι b0 = some (c, p0, z0) ∧ ¬ RO H b0
  kept : ∀ c, c < w.heap.size → (∀ b p z, ι b = some (c, p, z) → RO H b) → w'.heap[c]? = w.heap[c]?
  dom : ∀ b, b < H.next → ι b = none → ι' b = none
  os : w'.os = w.os
  tape : w'.tape = w.tape
  output : w'.output = w.output

theorem Ext.refl (ι : Im) (H : Heap) (w : World) : Ext ι H w ι H w :=
  ⟨ILe.refl _, Nat.le_refl _, Nat.le_refl _, fun _ _ _ h => h, (fun _ _ _ _ h k => by rw [h] at k; cases k), fun _ _ _ => rfl, fun _ _ h => h, rfl, rfl, rfl⟩

theorem Ext.trans {L : Lk} {ι ι' ι'' : Im} {H H' H'' : Heap} {w w' w'' : World} (s : Sim L ι H w) (s' : Sim L ι' H' w') (h : Ext ι H w ι' H' w') (k : Ext ι' H' w' ι'' H'' w'') : Ext ι H w ι'' H'' w'' := by
  have low : ∀ b c p z, ι b = some (c, p, z) → b < H.next := fun b c p z e => by
    rcases Nat.lt_or_ge b H.next with hb | hb
    · exact hb
    · rw [s.nx b hb] at e; cases e
  have back : ∀ b c p z, ι' b = some (c, p, z) → ¬ RO H' b → w.heap.size ≤ c ∨ ∃ b0 p0 z0, ι b0 = some (c, p0, z0) ∧ ¬ RO H b0 := fun b c p z e hr => by
    cases hb : ι b with
    | none => exact h.new b c p z hb e
    | some x =>
      have := h.le b x hb
      rw [e] at this
      cases this
      refine .inr ⟨b, p, z, hb, fun ⟨l, hl⟩ => hr ⟨l, h.ro b l (low b _ _ _ hb) hl⟩⟩
  refine ⟨h.le.trans k.le, Nat.le_trans h.hs k.hs, Nat.le_trans h.hn k.hn, fun b l hb hl => k.ro b l (Nat.lt_of_lt_of_le hb h.hn) (h.ro b l hb hl), fun b c p z e e' => ?_, fun c hc hk => ?_,
    fun b hb e => k.dom b (Nat.lt_of_lt_of_le hb h.hn) (h.dom b hb e), k.os.trans h.os, k.tape.trans h.tape, k.output.trans h.output⟩
  · cases hb : ι' b with
    | some x =>
      have := k.le b x hb
      rw [e'] at this
      cases this
      exact h.new b c p z e hb
    | none =>
      rcases k.new b c p z hb e' with h1 | ⟨b0, p0, z0, h1, h2⟩
      · exact .inl (Nat.le_trans h.hs h1)
      · exact back b0 c p0 z0 h1 h2
  · rw [k.kept c (Nat.lt_of_lt_of_le hc h.hs) (fun b p z e => ?_), h.kept c hc hk]
    rcases Classical.em (RO H' b) with hr | hr
    · exact hr
    · rcases back b c p z e hr with h1 | ⟨b0, p0, z0, h1, h2⟩
      · omega
      · exact absurd (hk b0 p0 z0 h1) h2

/-- The temporaries. -/
def FrRel (L : Lk) (ι : Im) (fr : Fr) (tmps : Array Value) : Prop := ∀ t v, fr.get t = some v → ∃ v', tmps[t]? = some v' ∧ Rel L ι v v'

theorem FrRel.mono {L : Lk} {ι ι' : Im} (h : ILe ι ι') {fr : Fr} {tmps : Array Value} (r : FrRel L ι fr tmps) : FrRel L ι' fr tmps :=
  fun t v hv => let ⟨v', h1, h2⟩ := r t v hv; ⟨v', h1, Rel.mono h _ _ h2⟩

theorem FrRel.put {L : Lk} {ι : Im} {fr : Fr} {tmps : Array Value} (r : FrRel L ι fr tmps) {d : Nat} {v : V} {w : Value} (hd : d < tmps.size) (hv : Rel L ι v w) :
    FrRel L ι (fr.put (some d) v) (tmps.setIfInBounds d w) := by
  intro t x hx
  simp only [Fr.get, Fr.put, look] at hx
  split at hx
  · rename_i hdt
    cases hx
    subst hdt
    exact ⟨w, by simp [hd], hv⟩
  · rename_i hdt
    obtain ⟨v', h1, h2⟩ := r t x hx
    exact ⟨v', by rw [Array.getElem?_setIfInBounds_ne hdt]; exact h1, h2⟩

theorem look_keepL {tm : List (Nat × V)} : ∀ {l : List Nat} {t : Nat} {v : V}, look (keepL tm l) t = some v → look tm t = some v
  | [], _, _, h => by cases h
  | a :: l, t, v, h => by
    unfold keepL at h
    split at h
    · rename_i x hx
      simp only [look] at h
      split at h
      · rename_i e; cases h; subst e; exact hx
      · exact look_keepL h
    · exact look_keepL h

theorem FrRel.keep {L : Lk} {ι : Im} {fr : Fr} {tmps : Array Value} (r : FrRel L ι fr tmps) (l : List Nat) : FrRel L ι (fr.keep l) tmps :=
  fun t v hv => r t v (look_keepL hv)

end Go.Ab
