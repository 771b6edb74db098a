/- Regions that draw their order: one canonical order serves every order. Conditions: a check by program of the order's edges. -/
import Derived.Test.YtdkgdneiilnppaaAj
set_option linter.all false
namespace Go.Ab
variable {L : Lk} {P : Program}

def opdT : Opd → List Nat
  | .t n => [n]
  | _ => []
def opdsT : List Opd → List Nat
  | [] => []
  | x :: r => opdT x ++ opdsT r
def optT : Option Opd → List Nat
  | none => []
  | some x => opdT x
def p3T : List (Nat × Nat × Opd) → List Nat
  | [] => []
  | (_, _, x) :: r => opdT x ++ p3T r
def p2T : List (Nat × Opd) → List Nat
  | [] => []
  | (_, x) :: r => opdT x ++ p2T r

/-- The temporaries that an operation reads. -/
def AOp.reads : AOp → List Nat
  | .mv x => opdT x
  | .pick c a b => opdT c ++ opdT a ++ opdT b
  | .bin _ _ x y => opdT x ++ opdT y
  | .un _ x => opdT x
  | .conv _ x => opdT x
  | .load _ a => opdT a
  | .store _ a x => opdT a ++ opdT x
  | .alloc _ => []
  | .box _ x => opdT x
  | .build _ ps => p3T ps
  | .bslice _ _ _ ps => p2T ps
  | .mkslice _ _ _ l c => opdT l ++ opdT c
  | .slice _ x lo hi mx => opdT x ++ optT lo ++ optT hi ++ optT mx
  | .substr x lo hi => opdT x ++ optT lo ++ optT hi
  | .fad _ x => opdT x
  | .fld _ _ x => opdT x
  | .iad _ _ x i => opdT x ++ opdT i
  | .idx _ _ _ x i => opdT x ++ opdT i
  | .nilck x => opdT x
  | .ext _ x => opdT x
  | .mkifc _ x => opdT x
  | .mkfn _ f c => opdsT f ++ opdsT c
  | .len _ x => opdT x
  | .slen x => opdT x
  | .append _ _ x y => opdT x ++ opdT y
  | .copy _ x y => opdT x ++ opdT y
  | .mm _ xs => opdsT xs
  | .call f args => opdT f ++ opdsT args
  | .dfr f args => opdT f ++ opdsT args
  | .pan x => opdT x

def Agree (fr fr' : Fr) (l : List Nat) : Prop := ∀ t ∈ l, fr.get t = fr'.get t

theorem opd_agree {fr fr' : Fr} {x : Opd} (h : Agree fr fr' (opdT x)) : opd fr x = opd fr' x := by
  cases x <;> first | rfl | exact h _ (by simp [opdT])
theorem Agree.left {fr fr' : Fr} {a b : List Nat} (h : Agree fr fr' (a ++ b)) : Agree fr fr' a := fun t ht => h t (List.mem_append_left _ ht)
theorem Agree.right {fr fr' : Fr} {a b : List Nat} (h : Agree fr fr' (a ++ b)) : Agree fr fr' b := fun t ht => h t (List.mem_append_right _ ht)
theorem opds_agree {fr fr' : Fr} : ∀ {xs : List Opd}, Agree fr fr' (opdsT xs) → opds fr xs = opds fr' xs
  | [], _ => rfl
  | x :: r, h => by simp only [opds, opd_agree h.left, opds_agree (xs := r) h.right]
theorem optd_agree {fr fr' : Fr} {x : Option Opd} (h : Agree fr fr' (optT x)) : optd fr x = optd fr' x := by
  cases x with
  | none => rfl
  | some x => simp only [optd, opd_agree (x := x) h]
theorem p3_agree {fr fr' : Fr} : ∀ {xs : List (Nat × Nat × Opd)}, Agree fr fr' (p3T xs) → parts3 fr xs = parts3 fr' xs
  | [], _ => rfl
  | (_, _, x) :: r, h => by simp only [parts3, opd_agree (x := x) h.left, p3_agree (xs := r) h.right]
theorem p2_agree {fr fr' : Fr} {n : Nat} : ∀ {xs : List (Nat × Opd)}, Agree fr fr' (p2T xs) → parts2 fr n xs = parts2 fr' n xs
  | [], _ => rfl
  | (_, x) :: r, h => by simp only [parts2, opd_agree (x := x) h.left, p2_agree (xs := r) h.right]

theorem fresh_agree {fr fr' : Fr} {p : AOp} (h : Agree fr fr' p.reads) : fresh fr p = fresh fr' p := by
  cases p <;> simp only [AOp.reads] at h <;> simp only [fresh]
  case box n x => rw [opd_agree h]
  case bslice => rw [p2_agree h]
  case mkslice => rw [opd_agree h.left, opd_agree h.right]

theorem step_agree {fr fr' : Fr} {H : Heap} {p : AOp} (h : Agree fr fr' p.reads) : step fr H p = step fr' H p := by
  cases p <;> (try simp only [AOp.reads] at h) <;> simp only [step]
  case mv => rw [opd_agree h]
  case pick => rw [opd_agree h.left.left, opd_agree h.left.right, opd_agree h.right]
  case bin => rw [opd_agree h.left, opd_agree h.right]
  case un => rw [opd_agree h]
  case conv => rw [opd_agree h]
  case load => rw [opd_agree h]
  case store => rw [opd_agree h.left, opd_agree h.right]
  case alloc => rw [fresh_agree (p := .alloc _) h]
  case box => rw [fresh_agree (p := .box _ _) h]
  case bslice => rw [fresh_agree (p := .bslice _ _ _ _) h]
  case mkslice => rw [fresh_agree (p := .mkslice _ _ _ _ _) h]
  case build => rw [p3_agree h]
  case slice => rw [opd_agree h.left.left.left, optd_agree h.left.left.right, optd_agree h.left.right, optd_agree h.right]
  case substr => rw [opd_agree h.left.left, optd_agree h.left.right, optd_agree h.right]
  case fad => rw [opd_agree h]
  case fld => rw [opd_agree h]
  case iad => rw [opd_agree h.left, opd_agree h.right]
  case idx => rw [opd_agree h.left, opd_agree h.right]
  case nilck => rw [opd_agree h]
  case ext => rw [opd_agree h]
  case mkifc => rw [opd_agree h]
  case mkfn => rw [opds_agree h.left, opds_agree h.right]
  case len arr x => cases arr <;> simp only [step, opd_agree h]
  case slen => rw [opd_agree h]
  case append => rw [opd_agree h.left, opd_agree h.right]
  case copy => rw [opd_agree h.left, opd_agree h.right]
  case mm => rw [opds_agree h]

theorem callee_agree {fr fr' : Fr} {f : Opd} {args : List Opd} (h : Agree fr fr' (opdT f ++ opdsT args)) : callee fr f args = callee fr' f args := by
  unfold callee; rw [opd_agree h.left, opds_agree h.right]

/-- Operations whose value hangs on the temporaries alone. -/
def pureOp : AOp → Bool
  | .load _ _ => false
  | .store _ _ _ => false
  | .alloc _ => false
  | .box _ _ => false
  | .bslice _ _ _ _ => false
  | .mkslice _ _ _ _ _ => false
  | .append _ _ _ _ => false
  | .copy _ _ _ => false
  | .call _ _ => false
  | .dfr _ _ => false
  | .pan _ => false
  | _ => true

theorem map_heap {α : Type} {o : Option α} {f : α → V} {H H' H1 : Heap} {v : V} (h : (o.map fun u => (f u, H)) = some (v, H1)) : H1 = H ∧ (o.map fun u => (f u, H')) = some (v, H') := by
  cases o with
  | none => cases h
  | some u => cases h; exact ⟨rfl, rfl⟩

theorem pure_step {fr : Fr} {H H' H1 : Heap} {p : AOp} {v : V} (hp : pureOp p = true) (h : step fr H p = some (v, H1)) : H1 = H ∧ step fr H' p = some (v, H') := by
  cases p <;> simp only [pureOp] at hp <;> (try cases hp)
  case pick c a b =>
    simp only [step] at h ⊢
    split at h
    · exact map_heap (f := fun v => v) h
    · cases h
  case idx arr esz n x i =>
    simp only [step] at h ⊢
    split at h
    · cases arr with
      | none => cases h
      | some m =>
        dsimp only at h ⊢
        split at h
        · rename_i hj; rw [if_pos hj]; exact map_heap (f := fun v => v) h
        · cases h
    · cases arr with
      | none =>
        dsimp only at h ⊢
        split at h
        · rename_i hj; rw [if_pos hj]; exact map_heap (f := fun b => V.int .u8 (UInt8.toNat b)) h
        · cases h
      | some m => cases h
    · cases h
  case len arr x =>
    cases arr with
    | none =>
      simp only [step] at h ⊢
      split at h
      · cases h; simp_all
      · cases h
    | some n =>
      simp only [step] at h ⊢
      exact map_heap (f := fun _ => V.int .i64 n) h
  case mkifc t x => exact map_heap (f := fun v => V.ifc t v) h
  all_goals simp only [step] at h ⊢
  all_goals (repeat' split at h) 
  all_goals first
    | (cases h; done)
    | exact map_heap (f := fun v => v) h
    | exact map_heap (f := V.bool) h
    | exact map_heap (f := V.agg) h
    | exact map_heap (f := fun b => V.int .u8 (UInt8.toNat b)) h
    | exact map_heap (f := fun _ => V.int .i64 _) h
    | (cases h; simp_all; done)
    | (simp_all; done)
    | skip

/-! ### The order's edges -/
/-- Operation i stands ahead of operation j, by edges that bind in every mode. -/
inductive Anc (ops : Array Oper) : Nat → Nat → Prop where
  | edge {i j : Nat} {o : Oper} {e : Edge} (h : ops[j]? = some o) (he : e ∈ o.after) (hb : Region.binds .any e = true) (hi : e.on = i) : Anc ops i j
  | step {i j : Nat} {o : Oper} {e : Edge} (h : ops[j]? = some o) (he : e ∈ o.after) (hb : Region.binds .any e = true) (ha : Anc ops i e.on) : Anc ops i j

/-- What is listed is closed. -/
def Closed (ops : Array Oper) (listed : Array Bool) : Prop :=
  ∀ (j : Nat) (o : Oper), ops[j]? = some o → listed.getD j false = true → ∀ e ∈ o.after, Region.binds .any e = true → listed.getD e.on false = true

theorem Anc.listed {ops : Array Oper} {listed : Array Bool} (hc : Closed ops listed) {i j : Nat} (h : Anc ops i j) : listed.getD j false = true → listed.getD i false = true := by
  induction h with
  | edge h he hb hi => intro hl; rw [← hi]; exact hc _ _ h hl _ he hb
  | step h he hb _ ih => intro hl; exact ih (hc _ _ h hl _ he hb)

theorem Anc.ready {ops : Array Oper} {listed : Array Bool} (hc : Closed ops listed) {i j : Nat} (h : Anc ops i j) (hr : j ∈ Region.ready .any ops listed) : listed.getD i false = true := by
  obtain ⟨_, o, ho, hall⟩ := mem_ready.1 hr
  cases h with
  | edge h he hb hi => rw [ho] at h; cases h; rw [← hi]; exact hall _ he hb
  | step h he hb ha => rw [ho] at h; cases h; exact ha.listed hc (hall _ he hb)

theorem Closed.set {ops : Array Oper} {listed : Array Bool} (hc : Closed ops listed) {j : Nat} (hr : j ∈ Region.ready .any ops listed) : Closed ops (listed.setIfInBounds j true) := by
  intro k o hk hl e he hb
  by_cases hjk : j = k
  · subst hjk
    obtain ⟨_, o', ho, hall⟩ := mem_ready.1 hr
    rw [hk] at ho; cases ho
    exact getD_set_true (hall e he hb)
  · rw [getD_set_ne false hjk] at hl
    exact getD_set_true (hc k o hk hl e he hb)

/-- A set of small numbers, as the bits of one. -/
structure Msk where
  n : Nat
instance : Membership Nat Msk := ⟨fun m k => m.n.testBit k = true⟩
def Msk.contains (m : Msk) (k : Nat) : Bool := m.n.testBit k
theorem Msk.contains_iff {m : Msk} {k : Nat} : m.contains k = true ↔ k ∈ m := Iff.rfl

/-- The ancestors, computed along a canonical order: a table of each operation's. -/
def ancN (tab : List (Nat × Msk)) : List Edge → Nat
  | [] => 0
  | e :: r => Nat.lor (if Region.binds .any e then Nat.lor (2 ^ e.on) (((tab.find? (·.1 == e.on)).map (·.2.n)).getD 0) else 0) (ancN tab r)
def ancOf (tab : List (Nat × Msk)) (o : Oper) : Msk := ⟨ancN tab o.after.toList⟩

theorem lor_bit (a b k : Nat) : (Nat.lor a b).testBit k = (a.testBit k || b.testBit k) := Nat.testBit_or a b k
theorem ancN_spec {tab : List (Nat × Msk)} : ∀ {l : List Edge} {k : Nat}, (ancN tab l).testBit k = true → ∃ e ∈ l, Region.binds .any e = true ∧ (k = e.on ∨ ∃ x, tab.find? (·.1 == e.on) = some x ∧ k ∈ x.2)
  | [], k, h => by simp [ancN] at h
  | e :: r, k, h => by
    rw [ancN, lor_bit, Bool.or_eq_true] at h
    rcases h with h | h
    · split at h
      · rename_i hb
        rw [lor_bit, Bool.or_eq_true] at h
        refine ⟨e, List.mem_cons_self, hb, ?_⟩
        rcases h with h | h
        · rw [Nat.testBit_two_pow] at h
          exact Or.inl (of_decide_eq_true h).symm
        · cases hf : tab.find? (·.1 == e.on) with
          | none => rw [hf] at h; simp at h
          | some x => rw [hf] at h; exact Or.inr ⟨x, rfl, h⟩
      · simp at h
    · obtain ⟨e', h1, h2⟩ := ancN_spec h
      exact ⟨e', List.mem_cons_of_mem _ h1, h2⟩
theorem ancOf_spec {ops : Array Oper} {tab : List (Nat × Msk)} {j : Nat} {o : Oper} (ht : ∀ i l, (i, l) ∈ tab → ∀ k ∈ l, Anc ops k i) (hj : ops[j]? = some o) : ∀ k ∈ ancOf tab o, Anc ops k j := by
  intro k hk
  obtain ⟨e, he, hb, h⟩ := ancN_spec hk
  have he' : e ∈ o.after := by simpa using he
  rcases h with rfl | ⟨x, hf, hk⟩
  · exact .edge hj he' hb rfl
  · obtain ⟨i, l⟩ := x
    have hi := List.find?_some hf
    simp only [beq_iff_eq] at hi
    subst hi
    exact .step hj he' hb (ht _ _ (List.mem_of_find?_eq_some hf) k hk)

end Go.Ab
