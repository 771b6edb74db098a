/- An operation that computes or reads does what the abstract one says. Conditions: none. -/
import Derived.Test.YtdkgdneiilnppaaAf
set_option linter.all false
namespace Go.Ab
variable {L : Lk} {ι : Im} {H : Heap} {w : World} {P : Program}

theorem and2 {a b : Bool} (h : (a && b) = true) : a = true ∧ b = true := by simpa using h

theorem bound_sound {x : Option V} {x' : Option Value} {d y n y' : Nat} {code : BoundsCode} (hr : ∀ v, x = some v → ∃ v', x' = some v' ∧ Rel L ι v v') (hn : x = none → x' = none) (h : bound x d y = some n) (hy : y ≤ y') :
    (x = none ∧ x' = none ∧ n = d) ∨ ∃ v', x' = some v' ∧ (Instr.sliceBound v' y' code).run P w = .ok n w ∧ n ≤ y := by
  unfold bound at h
  split at h
  · cases h; exact .inl ⟨rfl, hn rfl, rfl⟩
  · rename_i k i
    split at h
    · rename_i hi
      cases h
      obtain ⟨v', h1, h2⟩ := hr _ rfl
      cases h2
      refine .inr ⟨_, h1, ?_, by omega⟩
      unfold Instr.sliceBound
      simp only [asIntOf, Sem.run_bind, Sem.run_pure, Result.andThen_ok, Sem.run_ite]
      rw [if_pos (by omega)]
    · cases h
  · cases h

theorem bound_some_le {v : V} {d y n : Nat} (h : bound (some v) d y = some n) : n ≤ y := by
  cases v <;> simp only [bound] at h <;> first | (split at h <;> first | (cases h; omega) | cases h) | cases h

theorem bound_le {x : Option V} {d y n : Nat} (h : bound x d y = some n) (hd : d ≤ y) : n ≤ y := by
  cases x with
  | none => cases h; exact hd
  | some v => exact bound_some_le h

theorem optd_rel {fr : Fr} {a : Act} (hf : FrRel L ι fr a.tmps) {x : Option Opd} {y : Option Operand} {r : Option V} (hc : ckOpt L x y = true) (h : optd fr x = some r) :
    (∀ v, r = some v → ∃ v', y.map a.eval = some v' ∧ Rel L ι v v') ∧ (r = none → y.map a.eval = none) := by
  cases x with
  | none =>
    cases y with
    | none => cases h; exact ⟨(fun v e => by cases e), fun _ => rfl⟩
    | some y => simp [ckOpt] at hc
  | some x =>
    cases y with
    | none => simp [ckOpt] at hc
    | some y =>
      simp only [optd, Option.map_eq_some_iff] at h
      obtain ⟨v, h1, rfl⟩ := h
      exact ⟨(fun u e => by cases e; exact ⟨_, rfl, opd_rel hf hc h1⟩), (fun e => by cases e)⟩

theorem slice_bounds {lo hi mx : Option V} {lo' hi' mx' : Option Value} {len cap cap' m h l : Nat} (hcap : cap ≤ cap') (hlen : len ≤ cap)
    (l1 : ∀ v, lo = some v → ∃ v', lo' = some v' ∧ Rel L ι v v') (l2 : lo = none → lo' = none) (h1 : ∀ v, hi = some v → ∃ v', hi' = some v' ∧ Rel L ι v v') (h2 : hi = none → hi' = none)
    (m1 : ∀ v, mx = some v → ∃ v', mx' = some v' ∧ Rel L ι v v') (m2 : mx = none → mx' = none) (hm3 : hi = none → mx = none)
    (e1 : bound mx cap cap = some m) (e2 : bound hi len m = some h) (e3 : bound lo 0 h = some l) :
    ∃ m', (Instr.sliceBounds true len cap' lo' hi' mx').run P w = .ok (l, h, m') w ∧ l ≤ h ∧ h ≤ m ∧ m ≤ cap ∧ m ≤ m' ∧ m' ≤ cap' := by
  have hb3 : l ≤ h := bound_le e3 (Nat.zero_le _)
  have hlo : ∀ code, (match lo' with | some v => Instr.sliceBound v h code | none => pure 0 : Sem Nat).run P w = .ok l w := fun code => by
    rcases bound_sound (P := P) (w := w) (code := code) l1 l2 e3 (Nat.le_refl _) with ⟨_, h0, rfl⟩ | ⟨v', h0, hr, _⟩
    · rw [h0]; rfl
    · rw [h0]; exact hr
  cases mx with
  | none =>
    have hmx := m2 rfl
    subst hmx
    cases e1
    have hb2 : h ≤ cap := bound_le e2 hlen
    refine ⟨cap', ?_, hb3, hb2, Nat.le_refl _, hcap, Nat.le_refl _⟩
    unfold Instr.sliceBounds
    rcases bound_sound (P := P) (w := w) (code := .sliceAcap) h1 h2 e2 hcap with ⟨_, h0, rfl⟩ | ⟨v', h0, hr, _⟩
    · subst h0; simp only [Sem.run_bind, Sem.run_pure, Result.andThen_ok]
      have := hlo .sliceB
      cases lo' <;> simp_all
    · subst h0; simp only [Sem.run_bind, Sem.run_pure, Result.andThen_ok, if_true, hr]
      have := hlo .sliceB
      cases lo' <;> simp_all
  | some mv =>
    obtain ⟨mv', rfl, hmr⟩ := m1 _ rfl
    cases hi with
    | none => exact absurd (hm3 rfl) (by simp)
    | some hv =>
      obtain ⟨hv', rfl, hhr⟩ := h1 _ rfl
      have hbm : m ≤ cap := bound_some_le e1
      have hb2 : h ≤ m := bound_some_le e2
      refine ⟨m, ?_, hb3, hb2, hbm, Nat.le_refl _, by omega⟩
      unfold Instr.sliceBounds
      rcases bound_sound (P := P) (w := w) (code := .slice3Acap) m1 m2 e1 hcap with ⟨h0, _, _⟩ | ⟨v', h0, hr, _⟩
      · cases h0
      · cases h0
        rcases bound_sound (P := P) (w := w) (code := .slice3B) h1 h2 e2 (Nat.le_refl _) with ⟨h0, _, _⟩ | ⟨v'', h0, hr2, _⟩
        · cases h0
        · cases h0
          simp only [Sem.run_bind, Result.andThen_ok, if_true, hr, hr2]
          have := hlo .slice3C
          cases lo' <;> simp_all

theorem piece_rel {cs : List V} {vs : List Value} {o n : Nat} {l : List V} (h : RelL L ι cs vs) (hp : piece cs o n = some l) : RelL L ι l ((vs.drop o).take n) := by
  unfold piece at hp; split at hp
  · cases hp; exact (h.drop o).take n
  · cases hp

/-- 'part': a struct's, an array's part. -/
theorem part_sound {t : TypeId} {cs : List V} {vs : Array Value} {o : Nat} {n : Option Nat} {v : V} (hc : ckAgg P t n = true) (h : RelL L ι cs vs.toList)
    (hv : partV cs o n = some v) : ∃ v', (part t vs o).run P w = .ok v' w ∧ Rel L ι v v' := by
  unfold ckAgg at hc
  split at hc
  · rename_i d hd
    cases n with
    | none =>
      simp only [Bool.not_eq_true'] at hc
      obtain ⟨v', h1, h2⟩ := h.get hv
      refine ⟨v', ?_, h2⟩
      rw [Array.getElem?_toList] at h1
      unfold part; rw [Sem.run_bind, r_isAgg hd, hc]; simp [h1]
    | some n =>
      obtain ⟨ha, hi⟩ := and2 hc
      simp only [Option.any_eq_true, beq_iff_eq] at hi
      obtain ⟨i, hi1, hi2⟩ := hi
      simp only [partV, Option.map_eq_some_iff] at hv
      obtain ⟨l, hp, rfl⟩ := hv
      refine ⟨.agg (vs.extract o (o + n)), ?_, _, rfl, ?_⟩
      · unfold part; rw [Sem.run_bind, r_isAgg hd, ha]; simp [r_size hi1, hi2]
      · have := piece_rel h hp
        rw [Array.toList_extract, List.extract_eq_take_drop, show o + n - o = n by omega]; exact this
  · cases hc

theorem mm_sound {mx : Bool} : ∀ {r : List V} {ys : List Value} {x v : V} {x' : Value}, mms mx x r = some v → Rel L ι x x' → RelL L ι r ys →
    ∃ v', (ys.foldlM (if mx then Builtin.max2 else Builtin.min2) x').run P w = .ok v' w ∧ Rel L ι v v'
  | [], ys, x, v, x', h, hx, hr => by rw [show ys = [] from hr]; cases h; exact ⟨x', rfl, hx⟩
  | y :: r, ys, x, v, x', h, hx, ⟨y', s, e, hy, hr⟩ => by
    subst e
    simp only [mms] at h
    split at h
    · rename_i z hz
      unfold mm2 at hz
      split at hz
      · split at hz
        · rename_i hk; subst hk
          cases hz; cases hx; cases hy
          obtain ⟨v', h1, h2⟩ := mm_sound (mx := mx) h rfl hr
          refine ⟨v', ?_, h2⟩
          rw [List.foldlM_cons, Sem.run_bind]
          cases mx <;> simpa [Builtin.max2, Builtin.min2] using h1
        · cases hz
      · cases hz
    · cases h

/-- 'fill', over places that are told. -/
theorem over_rel {cells vs : List V} {ws xs : List Value} {o : Nat} (h : RelL L ι cells ws) (k : RelL L ι vs xs) : RelL L ι (over cells o vs) (ws.take o ++ xs ++ ws.drop (o + vs.length)) := by
  unfold over; exact ((h.take o).append k).append (h.drop _)

theorem foldl_set : ∀ (xs : List Value) (cells : Array Value) (o i : Nat), o + i + xs.length ≤ cells.size →
    ((xs.zipIdx i).foldl (fun cs (c, j) => cs.setIfInBounds (o + j) c) cells) = (cells.toList.take (o + i) ++ xs ++ cells.toList.drop (o + i + xs.length)).toArray
  | [], cells, o, i, _ => by simp
  | x :: xs, cells, o, i, h => by
    simp only [List.zipIdx_cons, List.foldl_cons, List.length_cons] at h ⊢
    rw [foldl_set xs _ o (i + 1) (by simp; omega)]
    congr 1
    simp only [Array.toList_setIfInBounds]
    have hlt : o + i < cells.toList.length := by simp; omega
    rw [List.drop_set, if_pos (by omega), ← Nat.add_assoc, List.take_add_one, List.take_set_of_le (Nat.le_refl _), List.getElem?_set_self hlt]
    simp only [Option.toList_some, List.append_assoc, List.singleton_append, List.cons_append, List.nil_append]
    rw [show o + i + 1 + xs.length = o + i + (xs.length + 1) by omega]

theorem fill_sound {place : Nat → Option (Nat × Nat)} : ∀ {ps : List (Nat × Nat × V)} {qs : List (Nat × Value)} {cells cs : List V} {arr : Array Value},
    ps.length = qs.length → (∀ (j : Nat) (o n : Nat) (v : V) (i : Nat) (x : Value), ps[j]? = some (o, n, v) → qs[j]? = some (i, x) → 0 < n ∧ place i = some (o, n) ∧ Rel L ι v x) →
    RelL L ι cells arr.toList → fillA cells ps = some cs → ∃ arr', Instr.fill place arr qs = some arr' ∧ RelL L ι cs arr'.toList
  | [], qs, cells, cs, arr, hl, _, hr, h => by
    have : qs = [] := List.eq_nil_of_length_eq_zero (by simpa using hl.symm)
    subst this; cases h; exact ⟨arr, rfl, hr⟩
  | (o, n, v) :: ps, [], cells, cs, arr, hl, _, _, _ => by simp at hl
  | (o, n, v) :: ps, (i, x) :: qs, cells, cs, arr, hl, hp, hr, h => by
    obtain ⟨hn, hpl, hv⟩ := hp 0 o n v i x rfl rfl
    simp only [fillA] at h
    split at h
    · rename_i hlen
      have hc := hv.cells (by omega)
      have hcl := hc.length
      have hal := hr.length
      have hxs : x.cells.size = n := by rw [← Array.length_toList, ← hcl, hlen.1]
      have hal' : cells.length = arr.size := by rw [hal, Array.length_toList]
      obtain ⟨arr', h1, h2⟩ := fill_sound (place := place) (ps := ps) (qs := qs) (cells := over cells o v.cells) (arr := (arr.toList.take o ++ x.cells.toList ++ arr.toList.drop (o + v.cells.length)).toArray)
        (by simpa using hl) (fun j o n v i x e1 e2 => hp (j + 1) o n v i x (by simpa using e1) (by simpa using e2)) (by simpa using over_rel hr hc) h
      refine ⟨arr', ?_, h2⟩
      rw [← h1]
      simp only [Instr.fill, hpl]
      rw [if_neg (by simp [hxs]; omega)]
      congr 1
      have := foldl_set x.cells.toList arr o 0 (by simp [hxs]; omega)
      rw [← Array.foldl_toList, Array.toList_zipIdx, this]
      simp [hcl]
    · cases h

end Go.Ab
