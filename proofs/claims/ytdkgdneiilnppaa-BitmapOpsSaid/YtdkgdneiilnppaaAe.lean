/- Loads, stores, new blocks: what they do to the model's world and to the abstract heap, side by side. Conditions: none. -/
import Derived.Test.YtdkgdneiilnppaaAd
set_option linter.all false
namespace Go.Ab
variable {L : Lk} {ι : Im} {H : Heap} {w : World} {P : Program}

theorem add_at (c q i : Nat) : Addr.add ⟨c, q, none⟩ i = ⟨c, q + i, none⟩ := by
  unfold Addr.add; split
  · rename_i h; subst h; rfl
  · rfl

theorem cell_at {arr : Array Value} {ty : TypeId} {fz : Nat × Nat} {c : Nat} (h : w.heap[c]? = some (.cells arr ty fz)) (o : Nat) : w.cell? ⟨c, o, none⟩ = arr[o]? := by
  simp [World.cell?, h]

theorem frozen_at {arr : Array Value} {ty : TypeId} {fz : Nat × Nat} {c : Nat} (h : w.heap[c]? = some (.cells arr ty fz)) (hz : fz.2 ≤ fz.1) (o : Nat) : w.frozen? ⟨c, o, none⟩ = false := by
  simp only [World.frozen?, h]; simp; omega

theorem run_load_some {a : Addr} {v : Value} (h : w.cell? a = some v) : (load a).run P w = .ok v w := by simp [h]

theorem run_loadCellsFrom (c q : Nat) : ∀ (n i : Nat) (acc : Array Value) (l : List Value), l.length = n → (∀ j v, l[j]? = some v → w.cell? ⟨c, q + (i + j), none⟩ = some v) →
    (loadCellsFrom ⟨c, q, none⟩ i n acc).run P w = .ok (acc ++ l.toArray) w
  | 0, i, acc, l, hl, _ => by
    have : l = [] := List.eq_nil_of_length_eq_zero hl
    subst this
    simp [loadCellsFrom]
  | n + 1, i, acc, [], hl, _ => by simp at hl
  | n + 1, i, acc, x :: l, hl, h => by
    have h0 := h 0 x rfl
    simp only [loadCellsFrom, Sem.run_bind, add_at]
    rw [run_load_some (by simpa using h0)]
    simp only [Result.andThen_ok]
    rw [run_loadCellsFrom c q n (i + 1) (acc.push x) l (by simpa using hl) (fun j v hv => by
      have := h (j + 1) v (by simpa using hv)
      rw [show q + (i + (j + 1)) = q + (i + 1 + j) by omega] at this; exact this)]
    simp

theorem run_loadCells (c q n : Nat) (l : List Value) (hl : l.length = n) (h : ∀ (j : Nat) (v : Value), l[j]? = some v → w.cell? ⟨c, q + j, none⟩ = some v) :
    (loadCells ⟨c, q, none⟩ n).run P w = .ok l.toArray w := by
  unfold loadCells
  rw [run_loadCellsFrom c q n 0 #[] l hl (by simpa using h)]
  simp

/-- A list written over a row. -/
def stA (arr : Array Value) (q : Nat) : List Value → Array Value
  | [] => arr
  | v :: r => stA (arr.setIfInBounds q v) (q + 1) r

theorem stA_size : ∀ (l : List Value) (arr : Array Value) (q : Nat), (stA arr q l).size = arr.size
  | [], _, _ => rfl
  | _ :: l, _, _ => by rw [stA, stA_size l]; simp

theorem stA_get : ∀ (l : List Value) (arr : Array Value) (q j : Nat), q + l.length ≤ arr.size → (stA arr q l)[j]? = if q ≤ j ∧ j < q + l.length then l[j - q]? else arr[j]?
  | [], arr, q, j, _ => by rw [stA, if_neg (by simp)]
  | v :: l, arr, q, j, h => by
    rw [stA, stA_get l _ _ _ (by simp at h ⊢; omega)]
    simp only [List.length_cons] at h ⊢
    by_cases h1 : q = j
    · subst h1
      rw [if_neg (by omega), if_pos (by omega)]
      have : q < arr.size := by omega
      simp [this]
    · by_cases h2 : q + 1 ≤ j ∧ j < q + 1 + l.length
      · rw [if_pos h2, if_pos (by omega), show j - q = (j - (q + 1)) + 1 by omega, List.getElem?_cons_succ]
      · rw [if_neg h2, if_neg (by omega), Array.getElem?_setIfInBounds_ne h1]

def stW (w : World) (c q : Nat) : List Value → World
  | [] => w
  | v :: r => stW (w.setCell ⟨c, q, none⟩ v) c (q + 1) r

theorem setCell_heap {arr : Array Value} {ty : TypeId} {fz : Nat × Nat} {c : Nat} (h : w.heap[c]? = some (.cells arr ty fz)) (q : Nat) (v : Value) :
    (w.setCell ⟨c, q, none⟩ v).heap[c]? = some (.cells (arr.setIfInBounds q v) ty fz) := by
  simp [World.setCell, Array.getElem?_modify, h]

theorem setCell_other {c k : Nat} (q : Nat) (v : Value) (hk : k ≠ c) : (w.setCell ⟨c, q, none⟩ v).heap[k]? = w.heap[k]? := by
  simp only [World.setCell, Array.getElem?_modify]; rw [if_neg (by omega)]

theorem stW_heap : ∀ (l : List Value) (w : World) {arr : Array Value} {ty : TypeId} {fz : Nat × Nat} {c : Nat} (q : Nat), w.heap[c]? = some (.cells arr ty fz) →
    (stW w c q l).heap[c]? = some (.cells (stA arr q l) ty fz)
  | [], _, _, _, _, _, _, h => h
  | v :: l, w, _, _, _, _, q, h => stW_heap l _ (q + 1) (setCell_heap h q v)

theorem stW_other : ∀ (l : List Value) (w : World) {c k : Nat} (q : Nat), k ≠ c → (stW w c q l).heap[k]? = w.heap[k]?
  | [], _, _, _, _, _ => rfl
  | v :: l, w, _, _, q, hk => by rw [stW, stW_other l _ (q + 1) hk, setCell_other q v hk]

theorem stW_same : ∀ (l : List Value) (w : World) (c q : Nat), (stW w c q l).heap.size = w.heap.size ∧ (stW w c q l).os = w.os ∧ (stW w c q l).tape = w.tape ∧ (stW w c q l).output = w.output
  | [], _, _, _ => ⟨rfl, rfl, rfl, rfl⟩
  | v :: l, w, c, q => by
    obtain ⟨h1, h2, h3, h4⟩ := stW_same l (w.setCell ⟨c, q, none⟩ v) c (q + 1)
    exact ⟨h1.trans (by simp [World.setCell]), h2, h3, h4⟩

theorem run_storeCells (c q : Nat) : ∀ (l : List Value) (w : World) {arr : Array Value} {ty : TypeId} {fz : Nat × Nat} (i : Nat), w.heap[c]? = some (.cells arr ty fz) → fz.2 ≤ fz.1 →
    q + i + l.length ≤ arr.size → (∀ v ∈ l, v.oneCell' = true) → (storeCells ⟨c, q, none⟩ l i).run P w = .ok () (stW w c (q + i) l)
  | [], w, _, _, _, i, _, _, _, _ => rfl
  | v :: l, w, arr, ty, fz, i, h, hz, hl, ho => by
    simp only [List.length_cons] at hl
    have hc : w.cell? ⟨c, q + i, none⟩ = some arr[q + i] := by rw [cell_at h]; simp
    rw [storeCells, Sem.run_bind, add_at, run_store P w _ v .plain (ho v (by simp)), hc]
    simp only [frozen_at h hz, Bool.false_eq_true, if_false, Result.andThen_ok]
    rw [run_storeCells c q l _ (i + 1) (setCell_heap h (q + i) v) hz (by simp; omega) (fun x hx => ho x (by simp [hx]))]
    rfl

/-! ### A load -/
theorem Sim.row {l : List V} {wr : Bool} {b c p z : Nat} (s : Sim L ι H w) (hb : ι b = some (c, p, z)) (hg : H.get b = .cells l wr) :
    ∃ arr ty fz, w.heap[c]? = some (.cells arr ty fz) ∧ arr.size = z ∧ p + l.length ≤ z ∧ (wr = true → fz.2 ≤ fz.1) ∧ ∀ (i : Nat) (v : V), l[i]? = some v → ∃ v', arr[p + i]? = some v' ∧ Rel L ι v v' := by
  have := s.ok b c p z hb; rw [hg] at this; exact this

theorem Sim.load1 {v : V} {b c p z o : Nat} (s : Sim L ι H w) (hb : ι b = some (c, p, z)) (h : rd H none b o = some v) : ∃ v', w.cell? ⟨c, p + o, none⟩ = some v' ∧ Rel L ι v v' := by
  unfold rd at h
  split at h
  · rename_i l wr hg
    obtain ⟨arr, ty, fz, e, _, _, _, h5⟩ := s.row hb hg
    obtain ⟨v', e1, e2⟩ := h5 o v h
    exact ⟨v', by rw [cell_at e]; exact e1, e2⟩
  · cases h

/-- What stands in the model's block where the abstract one has a piece. -/
theorem Sim.piece {l cs : List V} {wr : Bool} {b c p z o n : Nat} (s : Sim L ι H w) (hb : ι b = some (c, p, z)) (hg : H.get b = .cells l wr) (h : piece l o n = some cs) :
    ∃ ws : List Value, RelL L ι cs ws ∧ ws.length = n ∧ ∀ (j : Nat) (v : Value), ws[j]? = some v → w.cell? ⟨c, p + o + j, none⟩ = some v := by
  unfold Ab.piece at h
  split at h
  · rename_i hlen
    cases h
    obtain ⟨arr, ty, fz, e, e2, e3, _, h5⟩ := s.row hb hg
    have hget : ∀ (j : Nat), j < n → ((List.drop (p + o) arr.toList).take n)[j]? = arr[p + o + j]? := fun j hj => by
      rw [List.getElem?_take, if_pos hj, List.getElem?_drop, Array.getElem?_toList]
    have hl : ((List.drop (p + o) arr.toList).take n).length = n := by simp; omega
    refine ⟨(List.drop (p + o) arr.toList).take n, RelL.of_get (by rw [hl]; simp; omega) (fun i x hx => ?_), hl, fun j v hv => ?_⟩
    · have hi : i < n := by
        rcases Nat.lt_or_ge i n with h | h
        · exact h
        · rw [List.getElem?_take, if_neg (by omega)] at hx; cases hx
      rw [List.getElem?_take, if_pos hi, List.getElem?_drop] at hx
      obtain ⟨v', e1, e2⟩ := h5 _ _ hx
      exact ⟨v', by rw [hget i hi, Nat.add_assoc]; exact e1, e2⟩
    · have hj : j < n := by
        rcases Nat.lt_or_ge j n with h | h
        · exact h
        · rw [List.getElem?_eq_none (by omega)] at hv; cases hv
      rw [cell_at e, ← hget j hj]; exact hv
  · cases h

theorem Sim.loadN {v : V} {b c p z o n : Nat} (s : Sim L ι H w) (hb : ι b = some (c, p, z)) (h : rd H (some n) b o = some v) :
    ∃ arr : Array Value, (loadCells ⟨c, p + o, none⟩ n).run P w = .ok arr w ∧ Rel L ι v (.agg arr) := by
  unfold rd at h
  split at h
  · rename_i l wr hg
    simp only [Option.map_eq_some_iff] at h
    obtain ⟨cs, hp, rfl⟩ := h
    obtain ⟨ws, h1, h2, h3⟩ := s.piece hb hg hp
    exact ⟨ws.toArray, run_loadCells c (p + o) n ws h2 h3, ws.toArray, rfl, by simpa using h1⟩
  · cases h

/-! ### A store -/
theorem over_get (l vs : List V) (o j : Nat) (h : o + vs.length ≤ l.length) : (over l o vs)[j]? = if o ≤ j ∧ j < o + vs.length then vs[j - o]? else l[j]? := by
  unfold over
  by_cases h1 : j < o
  · rw [if_neg (by omega), List.append_assoc, List.getElem?_append_left (by simp; omega), List.getElem?_take, if_pos h1]
  · by_cases h2 : j < o + vs.length
    · rw [if_pos (by omega), List.getElem?_append_left (by simp; omega), List.getElem?_append_right (by simp; omega)]
      congr 1; simp; omega
    · rw [if_neg (by omega), List.getElem?_append_right (by simp; omega), List.getElem?_drop]
      congr 1; simp; omega

theorem over_length (l vs : List V) (o : Nat) (h : o + vs.length ≤ l.length) : (over l o vs).length = l.length := by
  unfold over; simp; omega

theorem not_ro {l : List V} {b : Nat} (h : H.get b = .cells l true) : ¬ RO H b := fun ⟨l', e⟩ => by rw [h] at e; cases e

theorem Sim.put {l vs : List V} {ws : List Value} {b c p z o : Nat} (s : Sim L ι H w) (hb : ι b = some (c, p, z)) (hg : H.get b = .cells l true) (hl : o + vs.length ≤ l.length)
    (hr : RelL L ι vs ws) : Sim L ι (H.put b (.cells (over l o vs) true)) (stW w c (p + o) ws) ∧ Ext ι H w ι (H.put b (.cells (over l o vs) true)) (stW w c (p + o) ws) := by
  obtain ⟨arr, ty, fz, e, e2, e3, e4, h5⟩ := s.row hb hg
  obtain ⟨w1, w2, w3, w4⟩ := stW_same ws w c (p + o)
  have hlen := hr.length
  have hlive : H.get b ≠ .dead := by rw [hg]; intro h; cases h
  have hget : ∀ x, (H.put b (.cells (over l o vs) true)).get x = if x = b then .cells (over l o vs) true else H.get x := fun _ => rfl
  refine ⟨⟨fun x hx => by
      have : x ≠ b := fun hxb => by subst hxb; rw [s.nx x hx] at hb; cases hb
      rw [hget, if_neg this]; exact s.dn x hx, fun x hx => s.nx x hx, fun x c' p' z' hx => by rw [w1]; exact s.lt x c' p' z' hx, fun x c' p' z' hx => ?_, fun x y c' p1 z1 p2 z2 hx hy lx ly lr => ?_⟩,
    ⟨ILe.refl _, by rw [w1]; exact Nat.le_refl _, Nat.le_refl _, fun x lx _ hx => ?_, (fun x _ _ _ h1 h2 => by rw [h1] at h2; cases h2), fun k hk hro => ?_, fun _ _ h => h, w2, w3, w4⟩⟩
  · rw [hget]
    by_cases hxb : x = b
    · subst hxb
      rw [hb] at hx; cases hx
      rw [if_pos rfl]
      refine ⟨stA arr (p + o) ws, ty, fz, stW_heap ws w (p + o) e, by rw [stA_size, e2], by rw [over_length l vs o hl]; exact e3, e4, fun i v hv => ?_⟩
      rw [stA_get ws arr (p + o) _ (by omega)]
      rw [over_get l vs o i hl] at hv
      by_cases hi : o ≤ i ∧ i < o + vs.length
      · rw [if_pos hi] at hv
        rw [if_pos (by omega), show p + i - (p + o) = i - o by omega]
        exact hr.get hv
      · rw [if_neg hi] at hv
        rw [if_neg (by omega)]
        exact h5 i v hv
    · rw [if_neg hxb]
      have h0 := s.ok x c' p' z' hx
      by_cases hcc : c' = c
      · subst hcc
        cases hgx : H.get x with
        | dead => trivial
        | cells l' wr' => exact absurd (s.inj b x c' p z p' z' hb hx hlive (by rw [hgx]; intro h; cases h) (not_ro hg)).symm hxb
        | map es => exact absurd (s.inj b x c' p z p' z' hb hx hlive (by rw [hgx]; intro h; cases h) (not_ro hg)).symm hxb
      · rw [stW_other ws w (p + o) hcc]; exact h0
  · have live : ∀ x, (H.put b (.cells (over l o vs) true)).get x ≠ .dead → H.get x ≠ .dead := fun x hx => by
      rw [hget] at hx
      by_cases hxb : x = b
      · subst hxb; exact hlive
      · rw [if_neg hxb] at hx; exact hx
    refine s.inj x y c' p1 z1 p2 z2 hx hy (live x lx) (live y ly) (fun ⟨l', e⟩ => ?_)
    by_cases hxb : x = b
    · subst hxb; exact not_ro hg ⟨l', e⟩
    · exact lr ⟨l', by rw [hget, if_neg hxb]; exact e⟩
  · rw [hget]
    by_cases hxb : x = b
    · subst hxb; rw [hg] at hx; cases hx
    · rw [if_neg hxb]; exact hx
  · refine stW_other ws w (p + o) (fun hkc => ?_)
    subst hkc
    obtain ⟨l', hl'⟩ := hro b p z hb
    rw [hg] at hl'; cases hl'

/-! ### A new block -/
def upd (ι : Im) (b c p z : Nat) : Im := fun x => if x = b then some (c, p, z) else ι x

theorem ILe.upd {b c p z : Nat} (h : ι b = none) : ILe ι (upd ι b c p z) := fun x y e => by
  unfold Ab.upd; by_cases hx : x = b
  · subst hx; rw [h] at e; cases e
  · rw [if_neg hx]; exact e

def pushW (w : World) (arr : Array Value) (ty : TypeId) : World := { w with heap := w.heap.push (.cells arr ty) }

theorem pushW_old (arr : Array Value) (ty : TypeId) {k : Nat} (h : k < w.heap.size) : (pushW w arr ty).heap[k]? = w.heap[k]? := by
  show (w.heap.push _)[k]? = _; rw [Array.getElem?_push, if_neg (by omega)]
theorem pushW_new (arr : Array Value) (ty : TypeId) : (pushW w arr ty).heap[w.heap.size]? = some (.cells arr ty) := by
  show (w.heap.push _)[w.heap.size]? = _; simp

/-- A block that the heap has, and the world had not: it is laid now. -/
theorem Sim.lay {l : List V} {b : Nat} {arr : Array Value} {ι0 : Im} {H0 : Heap} {w0 : World} (ty : TypeId) (s0 : Sim L ι0 H0 w0) (s : Sim L ι H w) (x0 : Ext ι0 H0 w0 ι H w) (h0 : H0.next ≤ b) (hb : ι b = none)
    (hn : b < H.next) (hg : H.get b = .cells l true) (hl : l.length ≤ arr.size) (hr : ∀ (i : Nat) (v : V), l[i]? = some v → ∃ v', arr[i]? = some v' ∧ Rel L ι v v') :
    Sim L (upd ι b w.heap.size 0 arr.size) H (pushW w arr ty) ∧ Ext ι0 H0 w0 (upd ι b w.heap.size 0 arr.size) H (pushW w arr ty) := by
  have hle : ILe ι (Ab.upd ι b w.heap.size 0 arr.size) := ILe.upd hb
  have hsz : (pushW w arr ty).heap.size = w.heap.size + 1 := by simp [pushW]
  have hold : ∀ x c p z, x ≠ b → Ab.upd ι b w.heap.size 0 arr.size x = some (c, p, z) → ι x = some (c, p, z) := fun x c p z hx e => by
    unfold Ab.upd at e; rw [if_neg hx] at e; exact e
  have hnew : Ab.upd ι b w.heap.size 0 arr.size b = some (w.heap.size, 0, arr.size) := by unfold Ab.upd; rw [if_pos rfl]
  refine ⟨⟨s.dn, fun x hx => ?_, fun x c p z e => ?_, fun x c p z e => ?_, fun x y c p1 z1 p2 z2 ex ey lx ly lr => ?_⟩,
    ⟨x0.le.trans hle, Nat.le_trans x0.hs (by omega), x0.hn, x0.ro, fun x c p z e e' => ?_, fun k hk hro => ?_, fun x hx e => ?_, x0.os, x0.tape, x0.output⟩⟩
  · have hxb : x ≠ b := by omega
    unfold Ab.upd; rw [if_neg hxb]; exact s.nx x hx
  · rw [hsz]
    by_cases hx : x = b
    · subst hx; rw [hnew] at e; cases e; omega
    · have := s.lt x c p z (hold x c p z hx e); omega
  · by_cases hx : x = b
    · subst hx; rw [hnew] at e; cases e
      rw [hg]
      refine ⟨arr, ty, (0, 0), pushW_new arr ty, rfl, by omega, fun _ => Nat.le_refl _, fun i v hv => ?_⟩
      obtain ⟨v', h1, h2⟩ := hr i v hv
      exact ⟨v', by rw [Nat.zero_add]; exact h1, Rel.mono hle _ _ h2⟩
    · have e0 := hold x c p z hx e
      rw [pushW_old arr ty (s.lt x c p z e0)]
      exact (s.ok x c p z e0).mono hle
  · by_cases hx : x = b
    · subst hx
      rw [hnew] at ex; cases ex
      by_cases hy : y = x
      · exact hy.symm
      · have := s.lt y _ _ _ (hold y _ _ _ hy ey); omega
    · have ex0 := hold x _ _ _ hx ex
      by_cases hy : y = b
      · subst hy
        rw [hnew] at ey; cases ey
        have := s.lt x _ _ _ ex0; omega
      · exact s.inj x y c p1 z1 p2 z2 ex0 (hold y _ _ _ hy ey) lx ly lr
  · by_cases hx : x = b
    · subst hx; rw [hnew] at e'; cases e'; exact .inl x0.hs
    · exact x0.new x c p z e (hold x c p z hx e')
  · rw [pushW_old arr ty (Nat.lt_of_lt_of_le hk x0.hs)]; exact x0.kept k hk hro
  · have hx2 : x ≠ b := by omega
    unfold Ab.upd; rw [if_neg hx2]; exact x0.dom x hx e

/-- A new block on the heap alone. -/
theorem Sim.ghost (s : Sim L ι H w) (o : Obj) : Sim L ι (H.new o) w ∧ Ext ι H w ι (H.new o) w := by
  have hget : ∀ x, x < H.next → (H.new o).get x = H.get x := fun x hx => by
    show (if x = H.next then o else H.get x) = _; rw [if_neg (by omega)]
  have low : ∀ b x, ι b = some x → b < H.next := fun b x e => by
    rcases Nat.lt_or_ge b H.next with hb | hb
    · exact hb
    · rw [s.nx b hb] at e; cases e
  refine ⟨⟨fun b hb => by
      have hn : (H.new o).next = H.next + 1 := rfl
      show (if b = H.next then o else H.get b) = _
      rw [if_neg (by omega)]; exact s.dn b (by omega), fun b hb => s.nx b (by have : (H.new o).next = H.next + 1 := rfl; omega), s.lt, fun b c p z e => by rw [hget b (low b _ e)]; exact s.ok b c p z e,
    fun x y c p1 z1 p2 z2 ex ey lx ly lr => ?_⟩, ⟨ILe.refl _, Nat.le_refl _, Nat.le_succ _, fun b l hb hl => by rw [hget b hb]; exact hl, (fun b c p z e e' => by rw [e] at e'; cases e'),
    fun _ _ _ => rfl, fun _ _ h => h, rfl, rfl, rfl⟩⟩
  rw [hget x (low x _ ex)] at lx
  rw [hget y (low y _ ey)] at ly
  exact s.inj x y c p1 z1 p2 z2 ex ey lx ly (fun ⟨l', e⟩ => lr ⟨l', by rw [hget x (low x _ ex)]; exact e⟩)

theorem new_get (o : Obj) : (H.new o).get H.next = o := by show (if H.next = H.next then o else _) = o; rw [if_pos rfl]

/-- Both at once. -/
theorem Sim.fresh {l : List V} {arr : Array Value} (ty : TypeId) (s : Sim L ι H w) (hl : l.length ≤ arr.size)
    (hr : ∀ (i : Nat) (v : V), l[i]? = some v → ∃ v', arr[i]? = some v' ∧ Rel L ι v v') :
    Sim L (upd ι H.next w.heap.size 0 arr.size) (H.new (.cells l true)) (pushW w arr ty) ∧ Ext ι H w (upd ι H.next w.heap.size 0 arr.size) (H.new (.cells l true)) (pushW w arr ty) := by
  obtain ⟨s1, x1⟩ := s.ghost (.cells l true)
  exact Sim.lay (b := H.next) ty s s1 x1 (Nat.le_refl _) (s.nx _ (Nat.le_refl _)) (Nat.lt_succ_self _) (new_get _) hl hr

/-- A block dies. -/
theorem Sim.kill (s : Sim L ι H w) {b : Nat} {l : List V} (hg : H.get b = .cells l true) : Sim L ι (H.put b .dead) w ∧ Ext ι H w ι (H.put b .dead) w := by
  have hget : ∀ x, (H.put b .dead).get x = if x = b then .dead else H.get x := fun _ => rfl
  refine ⟨⟨fun x hx => by
      rw [hget]
      by_cases hxb : x = b
      · rw [if_pos hxb]
      · rw [if_neg hxb]; exact s.dn x hx, s.nx, s.lt, fun x c p z e => ?_, fun x y c p1 z1 p2 z2 ex ey lx ly lr => ?_⟩, ⟨ILe.refl _, Nat.le_refl _, Nat.le_refl _, fun x lx _ hx => ?_, (fun x c p z e e' => by rw [e] at e'; cases e'),
    fun _ _ _ => rfl, fun _ _ h => h, rfl, rfl, rfl⟩⟩
  · rw [hget]; by_cases hx : x = b
    · rw [if_pos hx]; trivial
    · rw [if_neg hx]; exact s.ok x c p z e
  · rw [hget] at lx ly
    by_cases hx : x = b
    · rw [if_pos hx] at lx; exact absurd rfl lx
    · by_cases hy : y = b
      · rw [if_pos hy] at ly; exact absurd rfl ly
      · rw [if_neg hx] at lx; rw [if_neg hy] at ly; exact s.inj x y c p1 z1 p2 z2 ex ey lx ly (fun ⟨l', e⟩ => lr ⟨l', by rw [hget, if_neg hx]; exact e⟩)
  · rw [hget]; by_cases hxb : x = b
    · subst hxb; rw [hg] at hx; cases hx
    · rw [if_neg hxb]; exact hx

/-- A row that grows where it stands: its block dies, another one has its place and what is written behind. -/
theorem Sim.grow {l old new : List V} {ws : List Value} {b c p z o q n : Nat} (s : Sim L ι H w) (hb : ι b = some (c, p, z)) (hg : H.get b = .cells l true) (hp : Ab.piece l o n = some old)
    (hq : 0 < n → q = p + o) (hz : q + n + new.length ≤ z) (hr : RelL L ι new ws) :
    Sim L (upd ι H.next c q z) ((H.put b .dead).new (.cells (old ++ new) true)) (stW w c (q + n) ws) ∧
      Ext ι H w (upd ι H.next c q z) ((H.put b .dead).new (.cells (old ++ new) true)) (stW w c (q + n) ws) := by
  obtain ⟨arr, ty, fz, e, e2, e3, e4, h5⟩ := s.row hb hg
  obtain ⟨w1, w2, w3, w4⟩ := stW_same ws w c (q + n)
  have hlen := hr.length
  have hlive : H.get b ≠ .dead := by rw [hg]; intro h; cases h
  have hnx := s.nx H.next (Nat.le_refl _)
  have hle : ILe ι (upd ι H.next c q z) := ILe.upd hnx
  have low : ∀ b x, ι b = some x → b < H.next := fun b x e => by
    rcases Nat.lt_or_ge b H.next with hb | hb
    · exact hb
    · rw [s.nx b hb] at e; cases e
  have hbn := low b _ hb
  have hold : ∀ x y, x ≠ H.next → upd ι H.next c q z x = some y → ι x = some y := fun x y hx e => by
    unfold Ab.upd at e; rw [if_neg hx] at e; exact e
  have hnew : upd ι H.next c q z H.next = some (c, q, z) := by unfold Ab.upd; rw [if_pos rfl]
  have hget : ∀ x, ((H.put b .dead).new (.cells (old ++ new) true)).get x = if x = H.next then .cells (old ++ new) true else if x = b then .dead else H.get x := fun _ => rfl
  have hol : old.length = n ∧ ∀ i, i < n → old[i]? = l[o + i]? := by
    unfold Ab.piece at hp; split at hp
    · cases hp; refine ⟨by simp; omega, fun i hi => by rw [List.getElem?_take, if_pos hi, List.getElem?_drop]⟩
    · cases hp
  refine ⟨⟨fun x hx => by
      have h : ((H.put b .dead).new (.cells (old ++ new) true)).next = H.next + 1 := rfl
      rw [hget, if_neg (by omega)]
      by_cases hxb : x = b
      · rw [if_pos hxb]
      · rw [if_neg hxb]; exact s.dn x (by omega), fun x hx => ?_, fun x c' p' z' ex => ?_, fun x c' p' z' ex => ?_, fun x y c' p1 z1 p2 z2 ex ey lx ly lr => ?_⟩,
    ⟨hle, by rw [w1]; exact Nat.le_refl _, Nat.le_succ _, fun x lx hxn hx => ?_, fun x c' p' z' h1 h2 => ?_, fun k hk hro => ?_, fun x hx hxn => ?_, w2, w3, w4⟩⟩
  · have h : ((H.put b .dead).new (.cells (old ++ new) true)).next = H.next + 1 := rfl
    unfold Ab.upd; rw [if_neg (by omega)]; exact s.nx x (by omega)
  · rw [w1]
    by_cases hx : x = H.next
    · subst hx; rw [hnew] at ex; cases ex; exact s.lt b _ _ _ hb
    · exact s.lt x _ _ _ (hold x _ hx ex)
  · rw [hget]
    by_cases hx : x = H.next
    · subst hx; rw [hnew] at ex; cases ex
      rw [if_pos rfl]
      refine ⟨stA arr (q + n) ws, ty, fz, stW_heap ws w (q + n) e, by rw [stA_size, e2], by rw [List.length_append, hol.1]; omega, fun _ => e4 rfl, fun i v hv => ?_⟩
      rw [stA_get ws arr (q + n) _ (by omega)]
      by_cases hi : i < n
      · rw [List.getElem?_append_left (by omega), hol.2 i hi] at hv
        have hqq := hq (by omega)
        rw [if_neg (by omega)]
        obtain ⟨v', h1, h2⟩ := h5 _ _ hv
        exact ⟨v', by rw [← h1, hqq, Nat.add_assoc], Rel.mono hle _ _ h2⟩
      · rw [List.getElem?_append_right (by omega), hol.1] at hv
        have hi2 : i - n < new.length := by
          rcases Nat.lt_or_ge (i - n) new.length with h | h
          · exact h
          · rw [List.getElem?_eq_none h] at hv; cases hv
        rw [if_pos (by omega), show q + i - (q + n) = i - n by omega]
        obtain ⟨v', h1, h2⟩ := hr.get hv
        exact ⟨v', h1, Rel.mono hle _ _ h2⟩
    · rw [if_neg hx]
      have ex0 := hold x _ hx ex
      by_cases hxb : x = b
      · rw [if_pos hxb]; trivial
      · rw [if_neg hxb]
        have h0 := s.ok x c' p' z' ex0
        by_cases hcc : c' = c
        · subst hcc
          cases hgx : H.get x with
          | dead => trivial
          | cells l' wr' => exact absurd (s.inj b x c' p z p' z' hb ex0 hlive (by rw [hgx]; intro h; cases h) (not_ro hg)).symm hxb
          | map es => exact absurd (s.inj b x c' p z p' z' hb ex0 hlive (by rw [hgx]; intro h; cases h) (not_ro hg)).symm hxb
        · rw [stW_other ws w (q + n) hcc]; exact h0.mono hle
  · rw [hget] at lx ly
    by_cases hx : x = H.next
    · subst hx
      rw [hnew] at ex; cases ex
      by_cases hy : y = H.next
      · exact hy.symm
      · rw [if_neg hy] at ly
        by_cases hyb : y = b
        · rw [if_pos hyb] at ly; exact absurd rfl ly
        · rw [if_neg hyb] at ly
          exact absurd (s.inj b y _ p z _ _ hb (hold y _ hy ey) hlive ly (not_ro hg)).symm hyb
    · rw [if_neg hx] at lx
      have ex0 := hold x _ hx ex
      by_cases hxb : x = b
      · rw [if_pos hxb] at lx; exact absurd rfl lx
      · rw [if_neg hxb] at lx
        by_cases hy : y = H.next
        · subst hy; rw [hnew] at ey; cases ey
          exact absurd (s.inj b x _ p z _ _ hb ex0 hlive lx (not_ro hg)).symm hxb
        · rw [if_neg hy] at ly
          by_cases hyb : y = b
          · rw [if_pos hyb] at ly; exact absurd rfl ly
          · rw [if_neg hyb] at ly
            exact s.inj x y c' p1 z1 p2 z2 ex0 (hold y _ hy ey) lx ly (fun ⟨l', e⟩ => lr ⟨l', by rw [hget, if_neg hx, if_neg hxb]; exact e⟩)
  · rw [hget, if_neg (by omega)]
    by_cases hxb : x = b
    · subst hxb; rw [hg] at hx; cases hx
    · rw [if_neg hxb]; exact hx
  · by_cases hx : x = H.next
    · subst hx; rw [hnew] at h2; cases h2
      exact .inr ⟨b, p, z, hb, fun ⟨l', hl'⟩ => by rw [hg] at hl'; cases hl'⟩
    · rw [hold x _ hx h2] at h1; cases h1
  · refine stW_other ws w (q + n) (fun hkc => ?_)
    subst hkc
    obtain ⟨l', hl'⟩ := hro b p z hb
    rw [hg] at hl'; cases hl'
  · unfold Ab.upd; rw [if_neg (by omega)]; exact hxn

end Go.Ab
