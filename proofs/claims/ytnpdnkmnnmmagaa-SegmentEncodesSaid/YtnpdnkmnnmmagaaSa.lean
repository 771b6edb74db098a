/- Deferred functions that ask what was panicked with; loops out of which a panic leads. Conditions: none. -/
import Derived.Test.YtnpdnkmnnmmagaaK4
set_option linter.all false
namespace Go.Ab

/-- What is asked behind a function that asks what was panicked with. -/
def finR (res : List ARes) (K : Heap → Prop) : Post := fun e fr H' => match e with
  | .normal => fr.ds = [] ∧ (∃ vs, resOf fr H' res = some vs) ∧ K H'
  | .ret => fr.ds = [] ∧ (∃ vs, resOf fr H' res = some vs) ∧ K H'
  | _ => False
@[go_sem ↓] theorem finR_n (K : Heap → Prop) (tm : List (Nat × V)) (H : Heap) : finR [] K .normal ⟨tm, []⟩ H = K H := by simp [finR, resOf]
@[go_sem ↓] theorem finR_r (K : Heap → Prop) (tm : List (Nat × V)) (H : Heap) : finR [] K .ret ⟨tm, []⟩ H = K H := by simp [finR, resOf]
theorem told_of {fr : Fr} {res : List ARes} {Q : Out → Heap → Prop} {H : Heap} (h : told fr res Q H) : resK fr res Q H := by
  unfold told bindL at h
  unfold resK
  revert h
  cases resOf fr H res <;> exact id
theorem fin_rR {P : Prog} {res : List ARes} {Q : Out → Heap → Prop} {tm : List (Nat × V)} {g d : Nat} {F : AFun} {c : Cd} {l : List V} {H : Heap} (hr : recOf P g = some (F, d, c)) (hl : l.length = F.np)
    (h : wpC (Call P) c (finR F.res (told ⟨tm, [(g, l)]⟩ res Q)) ⟨(d, .nilifc) :: frame0 0 l, []⟩ H) : fin P false res Q .ret ⟨tm, [(g, l)]⟩ H := by
  refine ⟨(fun e => by cases e), ?_⟩
  simp only [evDs, hr]
  refine ⟨hl, wp_mono h fun e fr H' he => ?_⟩
  cases e
  case normal => exact ⟨he.1, he.2.1, told_of he.2.2⟩
  case ret => exact ⟨he.1, he.2.1, told_of he.2.2⟩
  all_goals exact he
theorem fin_pR {P : Prog} {res : List ARes} {Q : Out → Heap → Prop} {tm : List (Nat × V)} {g d : Nat} {F : AFun} {c : Cd} {l : List V} {v : V} {H : Heap} (hr : recOf P g = some (F, d, c)) (hl : l.length = F.np)
    (h : wpC (Call P) c (finR F.res (told ⟨tm, [(g, l)]⟩ res Q)) ⟨(d, v) :: frame0 0 l, []⟩ H) : fin P false res Q (.pan v) ⟨tm, [(g, l)]⟩ H := by
  refine ⟨(fun e => by cases e), ?_⟩
  simp only [evP, hr]
  refine ⟨hl, wp_mono h fun e fr H' he => ?_⟩
  cases e
  case normal => exact ⟨he.1, he.2.1, told_of he.2.2⟩
  case ret => exact ⟨he.1, he.2.1, told_of he.2.2⟩
  all_goals exact he
/-- A loop whose rounds go on while something gets smaller; a panic leads out of it, too. -/
theorem loop_decP {P : Prog} {c : Cd} {live : List Nat} {Q : Post} {t : Tag Q} {s : Tag c} {σ : Type} (m : σ → Nat) (F : σ → Fr) (S : σ → Heap → Prop)
    (round : ∀ x H (K : Post), S x H → (∀ y H', m y < m x → S y H' → K .normal (F y) H') → (∀ id fr H, K (.exit id) fr H = Q (.exit id) fr H) → (∀ fr H, K .ret fr H = Q .ret fr H) → (∀ v fr H, K (.pan v) fr H = Q (.pan v) fr H) → wpC (Call P) c K ((F x).keep live) H)
    (x : σ) (H : Heap) (h : S x H) : loopL (Call P) live c Q t s (F x) H :=
  loop_inv (fun k fr H => ∃ y, k = m y ∧ fr = F y ∧ S y H) (fun k fr H ⟨y, hk, hf, hs⟩ => by
    subst hf hk
    exact round y H _ hs (fun z H' hz h' => rnd_n (m z) hz ⟨z, rfl, rfl, h'⟩) (fun _ _ _ => rfl) (fun _ _ => rfl) (fun _ _ _ => rfl)) (m x) (F x) H ⟨x, rfl, rfl, h⟩
end Go.Ab
