/- A law's one argument, read as data out of the model's world: laid into the abstract heap as blocks that are only read; and from the abstract call to the model's. Conditions: none. -/
import Derived.Test.YtfgecfbknpifjaaK3
import Derived.Test.YtfgecfbknpifjaaK4
import Derived.ChangeArms
import Derived.WalkKit
import Derived.ProofKit
import Derived.OpenShut
import Derived.ShutString
import Derived.ChangeOld
import Derived.Below
import Derived.SizedLaws
set_option linter.all false
namespace Go.Ab
open Go.RowKit (Below)

/-- What an argument is. -/
inductive TD where
  | bool
  | int (k : IntKind)
  | flt (k : FloatKind)
  | str
  | agg (fs : List TD)
  | sl (bytes : Nat) (e : TD)
  | arr (n : Nat) (e : TD)

mutual
def TD.size : TD → Nat
  | .bool => 1
  | .int _ => 1
  | .flt _ => 1
  | .str => 1
  | .agg fs => TD.sizes fs
  | .sl _ _ => 1
  | .arr n e => n * e.size
def TD.sizes : List TD → Nat
  | [] => 0
  | f :: r => f.size + TD.sizes r
end

mutual
def TD.Ty : TD → Type
  | .bool => Bool
  | .int _ => Int
  | .flt _ => Nat
  | .str => ByteArray
  | .agg fs => TD.Tys fs
  | .sl _ e => List e.Ty
  | .arr _ e => List e.Ty
def TD.Tys : List TD → Type
  | [] => Unit
  | f :: r => f.Ty × TD.Tys r
end

/-- A row of cells, element by element. -/
def Split {α : Type} (R : List V → α → Prop) : List V → List α → Prop
  | L, [] => L = []
  | L, x :: xs => ∃ a b, L = a ++ b ∧ R a x ∧ Split R b xs

theorem Split.mono {α : Type} {R S : List V → α → Prop} (h : ∀ a x, R a x → S a x) : ∀ (xs : List α) (L : List V), Split R L xs → Split S L xs
  | [], _, r => r
  | _ :: xs, _, ⟨a, b, e, r, t⟩ => ⟨a, b, e, h _ _ r, Split.mono h xs b t⟩

theorem Split.snoc {α : Type} {R : List V → α → Prop} : ∀ {xs : List α} {L a : List V} {x : α}, Split R L xs → R a x → Split R (L ++ a) (xs ++ [x])
  | [], L, a, x, h, r => by rw [show L = [] from h]; exact ⟨a, [], by simp, r, rfl⟩
  | _ :: xs, _, a, x, ⟨p, q, e, r', t⟩, r => ⟨p, q ++ a, by rw [e, List.append_assoc], r', Split.snoc t r⟩

def inK (k : IntKind) (n : Int) : Prop := k.min ≤ n ∧ n ≤ k.max

mutual
/-- These cells read as that datum. -/
def Is (H : Heap) : (D : TD) → List V → D.Ty → Prop
  | .bool, cs, b => cs = [.bool b]
  | .int k, cs, n => cs = [.int k n] ∧ inK k n
  | .flt k, cs, n => cs = [.flt k n] ∧ (Lit.float k n).wf = true
  | .str, cs, s => cs = [.str s] ∧ s.size ≤ 140737488351232
  | .agg fs, cs, x => IsS H fs cs x
  | .sl bytes e, cs, xs => ∃ v L, cs = [v] ∧ Arr H v e.size (List.length (α := e.Ty) xs) L ∧ Split (Is H e) L xs ∧ List.length (α := e.Ty) xs * bytes ≤ 140737488351232
  | .arr n e, cs, xs => Split (Is H e) cs xs ∧ List.length (α := e.Ty) xs = n
def IsS (H : Heap) : (fs : List TD) → List V → TD.Tys fs → Prop
  | [], cs, _ => cs = []
  | f :: r, cs, x => ∃ a b, cs = a ++ b ∧ Is H f a x.1 ∧ IsS H r b x.2
end

mutual
theorem Is.same {H H' : Heap} (s : Same (fun _ => False) H H') : ∀ (D : TD) (cs : List V) (x : D.Ty), Is H D cs x → Is H' D cs x
  | .bool, _, _, h => h
  | .int _, _, _, h => h
  | .flt _, _, _, h => h
  | .str, _, _, h => h
  | .agg fs, cs, x, h => IsS.same s fs cs x h
  | .sl _ e, cs, xs, ⟨v, L, h1, h2, h3, h4⟩ => ⟨v, L, h1, h2.same s (fun _ _ h => h), Split.mono (fun a x h => Is.same s e a x h) _ _ h3, h4⟩
  | .arr _ e, cs, xs, ⟨h1, h2⟩ => ⟨Split.mono (fun a x h => Is.same s e a x h) _ _ h1, h2⟩
theorem IsS.same {H H' : Heap} (s : Same (fun _ => False) H H') : ∀ (fs : List TD) (cs : List V) (x : TD.Tys fs), IsS H fs cs x → IsS H' fs cs x
  | [], _, _, h => h
  | f :: r, cs, x, ⟨a, b, h1, h2, h3⟩ => ⟨a, b, h1, Is.same s f a x.1 h2, IsS.same s r b x.2 h3⟩
end

mutual
def ckTD (P : Program) : TD → TypeId → Bool
  | .bool, t => match P.underlying t with | some .bool => true | _ => false
  | .int k, t => match P.underlying t with | some (.int k') => decide (k = k') | _ => false
  | .flt k, t => match P.underlying t with | some (.float k') => decide (k = k') | _ => false
  | .str, t => match P.underlying t with | some .string => true | _ => false
  | .agg fs, t => match P.underlying t with | some (.struct fields) => ckTDs P fs fields.toList 0 && P.cellsOf t == TD.sizes fs | _ => false
  | .sl bytes e, t => match P.underlying t with | some (.slice u) => ckTD P e u && P.cellsOf u == e.size && P.bytesOf u == bytes && decide (0 < e.size) | _ => false
  | .arr n e, t => match P.underlying t with | some (.array n' u) => decide (n' = n) && ckTD P e u && P.cellsOf u == e.size && P.cellsOf t == n * e.size | _ => false
def ckTDs (P : Program) : List TD → List Field → Nat → Bool
  | [], [], _ => true
  | D :: r, f :: fs, o => f.offset == o && ckTD P D f.type && P.cellsOf f.type == D.size && ckTDs P r fs (o + D.size)
  | _, _, _ => false
end

def RoH (H : Heap) : Prop := ∀ b, b < H.next → RO H b

section
variable {L : Lk} {P : Program} {W : World} {T : Type} {enc : TypeId × Value → T}

/-- What is found of a datum that was read. -/
def Op1 (L : Lk) (W : World) (ι : Im) (H : Heap) (D : TD) (cs : List Value) : Prop :=
  ∃ ι' H' vs, ∃ x : D.Ty, Sim L ι' H' W ∧ ILe ι ι' ∧ Same (fun _ => False) H H' ∧ RoH H' ∧ RelL L ι' vs cs ∧ Is H' D vs x

/-- A block that is only read is laid. -/
theorem Sim.ro {ι : Im} {H : Heap} {l : List V} {arr : Array Value} {ty : TypeId} {fz : Nat × Nat} {c p : Nat} (s : Sim L ι H W) (hro : RoH H) (hb : W.heap[c]? = some (.cells arr ty fz)) (hp : p + l.length ≤ arr.size)
    (hr : ∀ (i : Nat) (v : V), l[i]? = some v → ∃ v', arr[p + i]? = some v' ∧ Rel L ι v v') :
    Sim L (upd ι H.next c p arr.size) (H.new (.cells l false)) W ∧ ILe ι (upd ι H.next c p arr.size) ∧ RoH (H.new (.cells l false)) := by
  have hle : ILe ι (upd ι H.next c p arr.size) := fun b x e => by
    have : b ≠ H.next := fun hb => by rw [hb, s.nx _ (Nat.le_refl _)] at e; cases e
    unfold Ab.upd; rw [if_neg this]; exact e
  have hget : ∀ x, (H.new (.cells l false)).get x = if x = H.next then .cells l false else H.get x := fun _ => rfl
  have hnew : upd ι H.next c p arr.size H.next = some (c, p, arr.size) := by unfold Ab.upd; rw [if_pos rfl]
  have hold : ∀ x y, x ≠ H.next → upd ι H.next c p arr.size x = some y → ι x = some y := fun x y hx e => by
    unfold Ab.upd at e; rw [if_neg hx] at e; exact e
  have hro' : RoH (H.new (.cells l false)) := fun b hb => by
    have hn : (H.new (.cells l false)).next = H.next + 1 := rfl
    by_cases h : b = H.next
    · exact ⟨l, by rw [hget, if_pos h]⟩
    · obtain ⟨l', e⟩ := hro b (by omega); exact ⟨l', by rw [hget, if_neg h]; exact e⟩
  have low : ∀ b x, upd ι H.next c p arr.size b = some x → b < H.next + 1 := fun b x e => by
    rcases Nat.lt_or_ge b (H.next + 1) with h | h
    · exact h
    · have := hold b x (by omega) e; rw [s.nx b (by omega)] at this; cases this
  refine ⟨⟨fun b hb => ?_, fun b hb => ?_, fun b c' p' z' e => ?_, fun b c' p' z' e => ?_, fun b b' c' p' z' p2 z2 e _ _ _ hn => absurd (hro' b (low b _ e)) hn⟩, hle, hro'⟩
  · have hn : (H.new (.cells l false)).next = H.next + 1 := rfl
    rw [hget, if_neg (by omega)]; exact s.dn b (by omega)
  · have hn : (H.new (.cells l false)).next = H.next + 1 := rfl
    unfold Ab.upd; rw [if_neg (by omega)]; exact s.nx b (by omega)
  · by_cases h : b = H.next
    · subst h; rw [hnew] at e; cases e
      exact (Array.getElem?_eq_some_iff.1 hb).1
    · exact s.lt b _ _ _ (hold b _ h e)
  · by_cases h : b = H.next
    · subst h; rw [hnew] at e; cases e
      rw [hget, if_pos rfl]
      exact ⟨arr, ty, fz, hb, rfl, hp, (fun h => by cases h), fun i v hv => let ⟨v', h1, h2⟩ := hr i v hv; ⟨v', h1, Rel.mono hle _ _ h2⟩⟩
    · rw [hget, if_neg h]
      exact (s.ok b _ _ _ (hold b _ h e)).mono hle

theorem addr_add_add (a : Addr) (i j : Nat) : (a.add i).add j = a.add (i + j) := by
  unfold Addr.add
  by_cases hi : i = 0
  · subst hi; simp
  · by_cases hj : j = 0
    · subst hj; simp [hi]
    · simp [hi, hj, Nat.add_assoc]

theorem cells_get {a : Addr} {n : Nat} {cs : List Value} (h : W.cells? 0 a n = some cs) : cs.length = n ∧ ∀ i, i < n → W.cell? (a.add i) = cs[i]? := by
  unfold World.cells? at h
  rw [if_pos (Nat.zero_le _)] at h
  have hl := mapM_some_length h
  refine ⟨by simpa using hl, fun i hi => ?_⟩
  exact mapM_some_get h i i (by simp [hi])

theorem openElems {e : TD} {n len : Nat} {a : Addr} {rd : List Value → Option (DataW T × List MemPlace)} {elems : List (DataW T × List MemPlace)}
    (ih : ∀ (cs : List Value) (d : DataW T) (ps : List MemPlace), rd cs = some (d, ps) → d ∈ elems.map (·.1) → ∀ ι H, Sim L ι H W → RoH H → Op1 L W ι H e cs)
    (hel : ∀ i, i < len → (W.cells? 0 (a.add (i * n)) n).bind rd = elems[i]?) (hlen : elems.length = len) {ι : Im} {H : Heap} (s : Sim L ι H W) (hro : RoH H) :
    ∀ k, k ≤ len → ∃ ι' H' vs ws, ∃ xs : List e.Ty, Sim L ι' H' W ∧ ILe ι ι' ∧ Same (fun _ => False) H H' ∧ RoH H' ∧ RelL L ι' vs ws ∧ ws.length = k * n ∧ (∀ i, i < k * n → W.cell? (a.add i) = ws[i]?) ∧ xs.length = k ∧ Split (Is H' e) vs xs
  | 0, _ => ⟨ι, H, [], [], [], s, ILe.refl _, Same.refl _ _, hro, rfl, by simp, fun i hi => by simp at hi, rfl, rfl⟩
  | k + 1, hk => by
    obtain ⟨ι1, H1, vs, ws, xs, s1, l1, m1, r1, q1, q2, q3, q4, q5⟩ := openElems ih hel hlen s hro k (by omega)
    have h := hel k (by omega)
    obtain ⟨y, hy⟩ : ∃ y, elems[k]? = some y := ⟨elems[k]'(by omega), by simp⟩
    rw [hy] at h
    simp only [Option.bind_eq_some_iff] at h
    obtain ⟨cs, hc, hr⟩ := h
    obtain ⟨c1, c2⟩ := cells_get hc
    obtain ⟨ι2, H2, v2, x2, s2, l2, m2, r2, p1, p2⟩ := ih cs y.1 y.2 hr (List.mem_map.2 ⟨y, List.mem_of_getElem? hy, rfl⟩) ι1 H1 s1 r1
    refine ⟨ι2, H2, vs ++ v2, ws ++ cs, xs ++ [x2], s2, l1.trans l2, m1.trans m2 fun _ _ h => h, r2, (RelL.mono l2 _ _ q1).append p1, by rw [List.length_append, q2, c1, Nat.add_mul, Nat.one_mul], fun i hi => ?_, by simp [q4], ?_⟩
    · rw [Nat.add_mul, Nat.one_mul] at hi
      by_cases h : i < k * n
      · rw [List.getElem?_append_left (by omega)]; exact q3 i h
      · rw [List.getElem?_append_right (by omega), q2, ← c2 (i - k * n) (by omega), addr_add_add]; congr 2; omega
    · exact Split.snoc (Split.mono (fun a x h => Is.same m2 e a x h) _ _ q5) p2

theorem openParts {e : TD} {z n : Nat} {cs : List Value} {rd : List Value → Option (DataW T × List MemPlace)} {elems : List (DataW T × List MemPlace)}
    (ih : ∀ (cs : List Value) (d : DataW T) (ps : List MemPlace), rd cs = some (d, ps) → d ∈ elems.map (·.1) → ∀ ι H, Sim L ι H W → RoH H → Op1 L W ι H e cs)
    (hel : ∀ i, i < n → rd ((cs.drop (i * z)).take z) = elems[i]?) (hlen : elems.length = n) {ι : Im} {H : Heap} (s : Sim L ι H W) (hro : RoH H) :
    ∀ k, k ≤ n → ∃ ι' H' vs, ∃ xs : List e.Ty, Sim L ι' H' W ∧ ILe ι ι' ∧ Same (fun _ => False) H H' ∧ RoH H' ∧ RelL L ι' vs (cs.take (k * z)) ∧ xs.length = k ∧ Split (Is H' e) vs xs
  | 0, _ => ⟨ι, H, [], [], s, ILe.refl _, Same.refl _ _, hro, by rw [Nat.zero_mul, List.take_zero]; rfl, rfl, rfl⟩
  | k + 1, hk => by
    obtain ⟨ι1, H1, vs, xs, s1, l1, m1, r1, q1, q4, q5⟩ := openParts ih hel hlen s hro k (by omega)
    have h := hel k (by omega)
    obtain ⟨y, hy⟩ : ∃ y, elems[k]? = some y := ⟨elems[k]'(by omega), by simp⟩
    rw [hy] at h
    obtain ⟨ι2, H2, v2, x2, s2, l2, m2, r2, p1, p2⟩ := ih _ y.1 y.2 h (List.mem_map.2 ⟨y, List.mem_of_getElem? hy, rfl⟩) ι1 H1 s1 r1
    refine ⟨ι2, H2, vs ++ v2, xs ++ [x2], s2, l1.trans l2, m1.trans m2 fun _ _ h => h, r2, ?_, by simp [q4], Split.snoc (Split.mono (fun a x h => Is.same m2 e a x h) _ _ q5) p2⟩
    rw [Nat.add_mul, Nat.one_mul, List.take_add]
    exact (RelL.mono l2 _ _ q1).append p1

theorem all_append {α : Type} {p : α → Bool} {l m : List α} (h : (l ++ m).all p = true) : l.all p = true ∧ m.all p = true := by
  simpa [List.all_append] using h

theorem weightsAll_mem {e : TypeId} {d : DataW T} : ∀ {l : List (DataW T)}, (DataW.weightsAll P e l).all (· ≤ reachBytes) = true → d ∈ l → (d.weights P e).all (· ≤ reachBytes) = true
  | [], _, h => by cases h
  | x :: r, h, hm => by
    rw [DataW.weightsAll] at h
    obtain ⟨h1, h2⟩ := all_append h
    rcases List.mem_cons.1 hm with rfl | hm
    · exact h1
    · exact weightsAll_mem h2 hm

mutual
theorem openTD : ∀ (D : TD) (t : TypeId) (fuel : Nat) (cs : List Value) (d : DataW T) (ps : List MemPlace), ckTD P D t = true → DataW.trod enc P W 0 (fun _ => true) true fuel t cs = some (d, ps) →
    (d.weights P t).all (· ≤ reachBytes) = true → ∀ ι H, Sim L ι H W → RoH H → Op1 L W ι H D cs
  | .bool, t, fuel, cs, d, ps, hc, h, hw, ι, H, s, hro => by
    unfold ckTD at hc; split at hc
    · rename_i hu
      obtain ⟨b, rfl, _⟩ := DataW.trod_bool hu h
      exact ⟨ι, H, [.bool b], b, s, ILe.refl _, Same.refl _ _, hro, ⟨_, _, rfl, rfl, rfl⟩, rfl⟩
    · cases hc
  | .int k, t, fuel, cs, d, ps, hc, h, hw, ι, H, s, hro => by
    unfold ckTD at hc; split at hc
    · rename_i k' hu
      obtain rfl := of_decide_eq_true hc
      obtain ⟨n, rfl, _, hwf⟩ := DataW.trod_int hu h
      refine ⟨ι, H, [.int k n], n, s, ILe.refl _, Same.refl _ _, hro, ⟨_, _, rfl, rfl, rfl⟩, rfl, ?_⟩
      simpa [Lit.wf, inK] using hwf
    · cases hc
  | .flt k, t, fuel, cs, d, ps, hc, h, hw, ι, H, s, hro => by
    unfold ckTD at hc; split at hc
    · rename_i k' hu
      obtain rfl := of_decide_eq_true hc
      cases fuel with
      | zero => simp [DataW.trod] at h
      | succ n =>
        unfold DataW.trod at h
        rw [hu] at h
        split at h <;> simp_all
        obtain ⟨⟨rfl, hwf⟩, _⟩ := h
        exact ⟨ι, H, [.flt _ _], _, s, ILe.refl _, Same.refl _ _, hro, ⟨_, _, rfl, rfl, rfl⟩, rfl, hwf⟩
    · cases hc
  | .str, t, fuel, cs, d, ps, hc, h, hw, ι, H, s, hro => by
    unfold ckTD at hc; split at hc
    · rename_i hu
      obtain ⟨b, rfl, e, _⟩ := DataW.trod_string hu h
      cases e
      refine ⟨ι, H, [.str b], b, s, ILe.refl _, Same.refl _ _, hro, ⟨_, _, rfl, rfl, rfl⟩, rfl, ?_⟩
      simp [DataW.weights, reachBytes] at hw
      exact of_decide_eq_true hw
    · cases hc
  | .agg fs, t, fuel, cs, d, ps, hc, h, hw, ι, H, s, hro => by
    unfold ckTD at hc; split at hc
    · rename_i fields hu
      simp only [Bool.and_eq_true, beq_iff_eq] at hc
      obtain ⟨xs, n, rfl, e, hl, hxs, hf⟩ := DataW.trod_struct hu h
      cases e
      rw [DataW.weights, hu] at hw
      obtain ⟨ι', H', vs, x, h1, h2, h3, h4, h5, h6⟩ := openTDs fs fields.toList 0 n cs xs hc.1 (fun i f hi => hf i f (by simpa using hi)) (by simpa using hxs) (by rw [hl, hc.2]; omega) hw ι H s hro
      exact ⟨ι', H', vs, x, h1, h2, h3, h4, h5, h6⟩
    · cases hc
  | .arr n e, t, fuel, cs, d, ps, hc, h, hw, ι, H, s, hro => by
    unfold ckTD at hc; split at hc
    · rename_i n' u hu
      simp only [Bool.and_eq_true, beq_iff_eq, decide_eq_true_eq] at hc
      obtain ⟨⟨⟨rfl, hce⟩, hsz⟩, hct⟩ := hc
      obtain ⟨xs, m, rfl, e0, hl, hxs, hf⟩ := DataW.trod_array hu h
      cases e0
      rw [DataW.weights, hu] at hw
      obtain ⟨ι1, H1, vs, ys, s1, l1, m1, r1, q1, q2, q3⟩ := openParts (L := L) (e := e) (cs := cs) (fun cs d ps hr hm ι H s hro => openTD e u m cs d ps hce hr (weightsAll_mem hw hm) ι H s hro) hf hxs s hro n' (Nat.le_refl _)
      rw [List.take_of_length_le (by rw [hl, hct, hsz]; exact Nat.le_refl _)] at q1
      exact ⟨ι1, H1, vs, ys, s1, l1, m1, r1, q1, q3, q2⟩
    · cases hc
  | .sl bytes e, t, fuel, cs, d, ps, hc, h, hw, ι, H, s, hro => by
    unfold ckTD at hc; split at hc
    · rename_i u hu
      simp only [Bool.and_eq_true, beq_iff_eq, decide_eq_true_eq] at hc
      obtain ⟨⟨⟨hce, hsz⟩, hby⟩, hpos⟩ := hc
      rcases DataW.trod_slice hu h with ⟨rfl, e0⟩ | ⟨a, len, cap, elems, rest, n, rfl, rfl, e0, _, hlc, _, hlen, hel, hsp, _⟩
      · exact ⟨ι, H, [.sl none 0 0 0], [], s, ILe.refl _, Same.refl _ _, hro, ⟨_, _, rfl, ⟨rfl, rfl, rfl⟩, rfl⟩, _, [], rfl, Or.inl ⟨rfl, rfl, rfl⟩, rfl, by simp⟩
      · cases e0
        rw [DataW.weights, hu] at hw
        simp only [List.all_cons, Bool.and_eq_true, decide_eq_true_eq] at hw
        obtain ⟨hw1, hw2⟩ := hw
        obtain ⟨hw3, _⟩ := all_append hw2
        rw [hsz] at hel hsp
        obtain ⟨ι1, H1, vs, ws, xs, s1, l1, m1, r1, q1, q2, q3, q4, q5⟩ := openElems (L := L) (e := e) (fun cs d ps hr hm ι H s hro => openTD e u n cs d ps hce hr (weightsAll_mem hw3 hm) ι H s hro) hel hlen s hro len (Nat.le_refl _)
        have hbytes : xs.length * bytes ≤ 140737488351232 := by
          simp only [List.length_map] at hw1
          rw [hby, hlen] at hw1
          have : len * bytes ≤ (len + rest.length) * bytes := Nat.mul_le_mul_right _ (by omega)
          rw [q4]; unfold reachBytes at hw1; omega
        rcases Nat.eq_zero_or_pos cap with h0 | h0
        · have hl0 : len = 0 := by omega
          subst hl0
          obtain rfl : ws = [] := List.eq_nil_of_length_eq_zero (by simpa using q2)
          obtain rfl : vs = [] := List.eq_nil_of_length_eq_zero (by have := q1.length; simpa using this)
          obtain rfl : xs = [] := List.eq_nil_of_length_eq_zero q4
          subst h0
          obtain ⟨g1, g2⟩ := s1.ghost (.cells [] false)
          refine ⟨ι1, H1.new (.cells [] false), [.sl (some (H1.next, 0)) 0 0 e.size], [], g1, l1, m1.trans (Same.new _ _ _) fun _ _ h => h, fun b hb => ?_, ⟨_, _, rfl, ⟨Nat.le_refl _, a, 0, rfl, Nat.le_refl _, fun h => by omega⟩, rfl⟩, _, [], rfl, Or.inr ⟨H1.next, 0, 0, [], false, rfl, ?_, by simp, by simp, Nat.le_refl _, by simp [next_new]⟩, rfl, by simp⟩
          · have hn : (H1.new (.cells [] false)).next = H1.next + 1 := rfl
            by_cases h : b = H1.next
            · exact ⟨[], by rw [get_new, if_pos h]⟩
            · obtain ⟨l', e⟩ := r1 b (by omega); exact ⟨l', by rw [get_new, if_neg h]; exact e⟩
          · rw [get_new, if_pos rfl]
        · -- a cell at its last element
          have hlast : ∃ v, W.cell? (a.add (cap * e.size - 1)) = some v := by
            have hce1 : cap * e.size = (cap - 1) * e.size + e.size := by
              conv => lhs; rw [show cap = (cap - 1) + 1 by omega]
              rw [Nat.add_mul, Nat.one_mul]
            have key : ∀ i y, (W.cells? 0 (a.add (i * e.size)) e.size).bind (DataW.trod enc P W 0 (fun _ => true) true n u) = some y → ∃ v, W.cell? (a.add (i * e.size + (e.size - 1))) = some v := by
              intro i y hy
              simp only [Option.bind_eq_some_iff] at hy
              obtain ⟨cs, hc, _⟩ := hy
              obtain ⟨c1, c2⟩ := cells_get hc
              rw [← addr_add_add, c2 (e.size - 1) (by omega)]
              exact ⟨cs[e.size - 1]'(by omega), by simp⟩
            rw [show cap * e.size - 1 = (cap - 1) * e.size + (e.size - 1) by omega]
            by_cases hx : cap - 1 < len
            · exact key (cap - 1) (elems[cap - 1]'(by omega)) (by rw [hel _ hx]; simp)
            · obtain ⟨t1, t2⟩ := hsp rfl
              have := t2 (cap - 1 - len) (by omega)
              rw [show len + (cap - 1 - len) = cap - 1 by omega] at this
              exact key (cap - 1) (rest[cap - 1 - len]'(by omega)) (by rw [this]; simp)
          obtain ⟨vl, hvl⟩ := hlast
          have hblk : ∃ arr ty fz, W.heap[a.block]? = some (.cells arr ty fz) ∧ a.spot = none ∧ a.off + cap * e.size ≤ arr.size := by
            have hb : (a.add (cap * e.size - 1)).block = a.block := by unfold Addr.add; split <;> rfl
            have ho : (a.add (cap * e.size - 1)).off = a.off + (cap * e.size - 1) := by unfold Addr.add; split <;> simp_all
            have hcpos : 0 < cap * e.size := Nat.mul_pos h0 hpos
            have h00 : ∃ v0, W.cell? a = some v0 := by
              have key : ∀ i y, (W.cells? 0 (a.add (i * e.size)) e.size).bind (DataW.trod enc P W 0 (fun _ => true) true n u) = some y → i = 0 → ∃ v, W.cell? a = some v := by
                intro i y hy hi
                subst hi
                simp only [Option.bind_eq_some_iff] at hy
                obtain ⟨cs, hc, _⟩ := hy
                obtain ⟨c1, c2⟩ := cells_get hc
                have := c2 0 hpos
                rw [addr_add_add] at this
                simp only [Nat.zero_mul, Nat.add_zero, Addr.add, if_true] at this
                exact ⟨cs[0]'(by omega), by rw [this]; simp⟩
              by_cases hx : 0 < len
              · exact key 0 (elems[0]'(by omega)) (by rw [hel _ hx]; simp) rfl
              · obtain ⟨t1, t2⟩ := hsp rfl
                have := t2 0 (by omega)
                exact key (len + 0) (rest[0]'(by omega)) (by rw [this]; simp) (by omega)
            obtain ⟨v0, h00⟩ := h00
            unfold World.cell? at hvl h00
            rw [hb] at hvl
            cases hg : W.heap[a.block]? with
            | none => rw [hg] at h00; cases h00
            | some o =>
              rw [hg] at h00 hvl
              cases o with
              | cells arr ty fz =>
                dsimp only at h00 hvl
                split at h00
                · cases h00
                · rename_i hs
                  split at hvl
                  · cases hvl
                  · rw [ho] at hvl
                    have hlt := (Array.getElem?_eq_some_iff.1 hvl).1
                    refine ⟨arr, ty, fz, rfl, ?_, by omega⟩
                    cases hsp : a.spot with
                    | none => rfl
                    | some x => rw [hsp] at hs; simp at hs
              | _ => cases h00
          obtain ⟨arr, ty, fz, hg, hspot, hsize⟩ := hblk
          obtain ⟨ab, ao, asp⟩ := a
          dsimp only at hspot hg hsize
          subst hspot
          have hcell : ∀ i, W.cell? (Addr.add ⟨ab, ao, none⟩ i) = arr[ao + i]? := by
            intro i
            have : (Addr.add ⟨ab, ao, none⟩ i) = ⟨ab, ao + i, none⟩ := by unfold Addr.add; split <;> simp_all
            rw [this]; unfold World.cell?; rw [hg]; rfl
          have hvl : vs.length = len * e.size := by rw [q1.length, q2]
          have hmul : len * e.size ≤ cap * e.size := Nat.mul_le_mul_right _ hlc
          obtain ⟨g1, g2, g3⟩ := s1.ro (l := vs) (p := ao) r1 hg (by omega) (fun i v hv => by
            obtain ⟨y, hy, hry⟩ := q1.get hv
            have hi : i < len * e.size := by rw [← hvl]; exact (List.getElem?_eq_some_iff.1 hv).1
            exact ⟨y, by rw [← hcell, q3 i hi]; exact hy, hry⟩)
          refine ⟨_, _, [.sl (some (H1.next, 0)) len len e.size], xs, g1, l1.trans g2, m1.trans (Same.new _ _ _) fun _ _ h => h, g3, ⟨_, _, rfl, ⟨Nat.le_refl _, ⟨ab, ao, none⟩, cap, rfl, hlc, fun _ => ⟨ab, ao, arr.size, ao, by unfold Ab.upd; rw [if_pos rfl], rfl, by omega, fun _ => by omega⟩⟩, rfl⟩, _, vs, rfl, Or.inr ⟨H1.next, 0, len, vs, false, by rw [q4], by rw [get_new, if_pos rfl], by rw [hvl, q4]; omega, by rw [q4, ← hvl]; simp, by omega, by simp [next_new]⟩, Split.mono (fun a x h => Is.same (Same.new _ _ _) e a x h) _ _ q5, hbytes⟩
    · cases hc
theorem openTDs : ∀ (fs : List TD) (fields : List Field) (o n : Nat) (cs : List Value) (xs : List (DataW T × List MemPlace)), ckTDs P fs fields o = true →
    (∀ (i : Nat) (f : Field), fields[i]? = some f → DataW.trod enc P W 0 (fun _ => true) true n f.type ((cs.drop f.offset).take (P.cellsOf f.type)) = xs[i]?) → xs.length = fields.length → cs.length = o + TD.sizes fs →
    (DataW.weightsEach P (fields.map (·.type)) (xs.map (·.1))).all (· ≤ reachBytes) = true → ∀ ι H, Sim L ι H W → RoH H →
    ∃ ι' H' vs, ∃ x : TD.Tys fs, Sim L ι' H' W ∧ ILe ι ι' ∧ Same (fun _ => False) H H' ∧ RoH H' ∧ RelL L ι' vs (cs.drop o) ∧ IsS H' fs vs x
  | [], fields, o, n, cs, xs, hc, hf, hx, hl, hw, ι, H, s, hro => by
    refine ⟨ι, H, [], (), s, ILe.refl _, Same.refl _ _, hro, ?_, rfl⟩
    rw [List.drop_eq_nil_of_le (by simp only [TD.sizes] at hl; omega)]; rfl
  | D :: r, [], o, n, cs, xs, hc, hf, hx, hl, hw, ι, H, s, hro => by cases hc
  | D :: r, f :: fields, o, n, cs, xs, hc, hf, hx, hl, hw, ι, H, s, hro => by
    simp only [ckTDs, Bool.and_eq_true, beq_iff_eq] at hc
    obtain ⟨⟨⟨ho, hck⟩, hsz⟩, hrest⟩ := hc
    cases xs with
    | nil => simp at hx
    | cons x xs =>
      simp only [TD.sizes] at hl
      simp only [List.map_cons, DataW.weightsEach] at hw
      obtain ⟨hw1, hw2⟩ := all_append hw
      have h0 := hf 0 f rfl
      rw [ho, hsz] at h0
      obtain ⟨ι1, H1, v1, x1, s1, l1, m1, r1, p1, p2⟩ := openTD D f.type n ((cs.drop o).take D.size) x.1 x.2 hck h0 hw1 ι H s hro
      obtain ⟨ι2, H2, v2, x2, s2, l2, m2, r2, p3, p4⟩ := openTDs r fields (o + D.size) n cs xs hrest (fun i f hi => hf (i + 1) f hi) (by simpa using hx) (by omega) hw2 ι1 H1 s1 r1
      refine ⟨ι2, H2, v1 ++ v2, (x1, x2), s2, l1.trans l2, m1.trans m2 fun _ _ h => h, r2, ?_, v1, v2, rfl, Is.same m2 D _ _ p2, p4⟩
      have := (RelL.mono l2 _ _ p1).append p3
      rwa [← List.drop_drop, List.take_append_drop] at this
end

/-- The empty heap. -/
def H0 : Heap := ⟨0, fun _ => .dead⟩
theorem sim0 : Sim L (fun _ => none) H0 W := ⟨fun _ _ => rfl, fun _ _ => rfl, (fun _ _ _ _ h => by cases h), (fun _ _ _ _ h => by cases h), (fun _ _ _ _ _ _ _ _ h => by cases h)⟩
theorem ro0 : RoH H0 := fun _ h => by cases h

/-- The value of an argument. -/
def argV : TD → List V → V
  | .agg _, cs => .agg cs
  | .arr _ _, cs => .agg cs
  | _, [v] => v
  | _, _ => .un

/-- How an argument lies before it is read. -/
def okArg : TD → Value → Prop
  | .agg _, v => ∃ cs, v = .agg cs
  | .arr _ _, v => ∃ cs, v = .agg cs
  | _, v => v.cells = #[v]

/-- A law's call: it answers true and leaves all that was. -/
theorem law_calls {pr : Prog} (k : Linked L P pr) {g : Nat} (hd : L.dom g = true) (D : TD) {t : TypeId} {v : Value} {d : DataW T} {ps : List MemPlace} (hck : ckTD P D t = true)
    (h : DataW.Trod enc P W 0 (fun _ => true) true t v d ps) (hok : okArg D v) (hw : (d.weights P t).all (· ≤ reachBytes) = true)
    (hcall : ∀ H cs, ∀ x : D.Ty, Is H D cs x → Call pr g [argV D cs] H fun o _ => o = .ret (.bool true)) :
    Calls P (L.φ g) #[v] W fun e W' => e = .returned (.bool true) ∧ Below W.heap.size W W' := by
  obtain ⟨fuel, hf⟩ := h
  obtain ⟨ι, H, vs, x, s, _, _, hro, hr, hi⟩ := openTD (L := L) D t fuel v.cells.toList d ps hck hf hw _ _ sim0 ro0
  have hrel : RelL L ι [argV D vs] (#[v] : Array Value).toList := by
    refine ⟨v, [], rfl, ?_, rfl⟩
    have single : v.cells = #[v] → argV D vs = argV .bool vs → Rel L ι (argV D vs) v := fun e e2 => by
      rw [e] at hr
      cases vs with
      | nil => have := hr.length; simp at this
      | cons a b =>
        obtain ⟨y, q, e1, h1, h2⟩ := hr
        cases e1
        obtain rfl : b = [] := by cases b with
          | nil => rfl
          | cons _ _ => have := h2.length; simp at this
        rw [e2]; exact h1
    cases D with
    | agg fs => obtain ⟨cs, rfl⟩ := hok; exact ⟨cs, rfl, hr⟩
    | arr n e => obtain ⟨cs, rfl⟩ := hok; exact ⟨cs, rfl, hr⟩
    | bool => exact single hok rfl
    | int k => exact single hok (by cases vs with | nil => rfl | cons a b => cases b <;> rfl)
    | flt k => exact single hok (by cases vs with | nil => rfl | cons a b => cases b <;> rfl)
    | str => exact single hok (by cases vs with | nil => rfl | cons a b => cases b <;> rfl)
    | sl _ e => exact single hok (by cases vs with | nil => rfl | cons a b => cases b <;> rfl)
  refine ((call_sound k (hcall H vs x hi) hd ι W #[v] s hrel).1).mono fun e W' he => ?_
  obtain ⟨ι', H', s', x', he⟩ := he
  have hb : Below W.heap.size W W' := by
    refine ⟨x'.os, x'.tape, x'.output, x'.hs, fun c hc => x'.kept c hc fun b p z e => hro b ?_⟩
    rcases Nat.lt_or_ge b H.next with h | h
    · exact h
    · rw [s.nx b h] at e; cases e
  cases e with
  | returned v' => obtain ⟨u, h1, h2⟩ := he; cases h2; exact ⟨by rw [show v' = .bool true from h1], hb⟩
  | panicked c => obtain ⟨u, u', _, _, h2⟩ := he; cases h2
  | outgrown => exact he.elim

/-- A law without an argument. -/
theorem law_calls0 {pr : Prog} (k : Linked L P pr) {g : Nat} (hd : L.dom g = true) (hcall : ∀ H, Call pr g [] H fun o _ => o = .ret (.bool true)) :
    Calls P (L.φ g) #[] W fun e W' => e = .returned (.bool true) ∧ Below W.heap.size W W' := by
  refine ((call_sound k (hcall H0) hd _ W #[] sim0 rfl).1).mono fun e W' he => ?_
  obtain ⟨ι', H', s', x', he⟩ := he
  have hb : Below W.heap.size W W' := ⟨x'.os, x'.tape, x'.output, x'.hs, fun c hc => x'.kept c hc fun b p z e => by cases e⟩
  cases e with
  | returned v' => obtain ⟨u, h1, h2⟩ := he; cases h2; exact ⟨by rw [show v' = .bool true from h1], hb⟩
  | panicked c => obtain ⟨u, u', _, _, h2⟩ := he; cases h2
  | outgrown => exact he.elim
end
end Go.Ab
/- Lists of numbers among a law's data. Conditions: none. -/
namespace Go.Ab

theorem split_ints {k : IntKind} {H : Heap} : ∀ {L : List V} {zs : List Int}, Split (Is H (.int k)) L zs → L = zs.map (V.int k) ∧ ∀ z ∈ zs, inK k z
  | _, [], h => ⟨h, fun _ h => by cases h⟩
  | _, z :: zs, ⟨a, b, e, ⟨h1, h2⟩, h3⟩ => by
    obtain ⟨h4, h5⟩ := split_ints h3
    refine ⟨by rw [e, h1, h4]; rfl, fun y hy => ?_⟩
    rcases List.mem_cons.1 hy with rfl | hy
    · exact h2
    · exact h5 y hy
theorem Is.ints {k : IntKind} {b : Nat} {H : Heap} {cs : List V} {zs : List Int} (h : Is H (.sl b (.int k)) cs zs) : ∃ v, cs = [v] ∧ Arr H v 1 zs.length (zs.map (V.int k)) ∧ (∀ z ∈ zs, inK k z) ∧ zs.length * b ≤ 140737488351232 := by
  obtain ⟨v, L, h1, h2, h3, h4⟩ := h
  obtain ⟨h5, h6⟩ := split_ints h3
  exact ⟨v, h1, by rw [← h5]; exact h2, h6, h4⟩
theorem nats_of {k : IntKind} (hk : k.min = 0) : ∀ {zs : List Int}, (∀ z ∈ zs, inK k z) → ∃ ns : List Nat, zs = ns.map (fun (n : Nat) => (n : Int)) ∧ ∀ n ∈ ns, ((n : Nat) : Int) ≤ k.max
  | [], _ => ⟨[], rfl, fun _ h => by cases h⟩
  | z :: zs, h => by
    obtain ⟨ns, h1, h2⟩ := nats_of hk fun y hy => h y (List.mem_cons_of_mem _ hy)
    have hz := h z List.mem_cons_self
    unfold inK at hz
    rw [hk] at hz
    refine ⟨z.toNat :: ns, ?_, fun n hn => ?_⟩
    · rw [List.map_cons, ← h1, Int.toNat_of_nonneg hz.1]
    · rcases List.mem_cons.1 hn with rfl | hn
      · rw [Int.toNat_of_nonneg hz.1]; exact hz.2
      · exact h2 n hn
theorem Is.nats {k : IntKind} {b : Nat} {H : Heap} {cs : List V} {zs : List Int} (hk : k.min = 0) (h : Is H (.sl b (.int k)) cs zs) :
    ∃ (v : V) (ns : List Nat), cs = [v] ∧ Arr H v 1 ns.length (ns.map fun (n : Nat) => .int k n) ∧ (∀ n ∈ ns, ((n : Nat) : Int) ≤ k.max) ∧ ns.length * b ≤ 140737488351232 := by
  obtain ⟨v, h1, h2, h3, h4⟩ := Is.ints h
  obtain ⟨ns, rfl, h5⟩ := nats_of hk h3
  rw [List.length_map] at h2 h4
  rw [List.map_map] at h2
  exact ⟨v, ns, h1, h2, h5, h4⟩
end Go.Ab
