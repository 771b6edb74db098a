/- What a call comes to grows with what is asked behind it; a call is what its body comes to; a loop is its first round and the loop. Conditions: none. -/
import Derived.Test.YtdkgdneiilnppaaAb
set_option linter.all false
namespace Go.Ab

def CLe (C C' : CallT) : Prop := ∀ g l H Q Q', (∀ o H', Q o H' → Q' o H') → C g l H Q → C' g l H Q'

theorem gif_mono {b : Bool} {A B A' B' : Prop} (hA : A → A') (hB : B → B') (h : gif b A B) : gif b A' B' := by
  unfold gif at *; split <;> rename_i hb
  · rw [if_pos hb] at h; exact hA h
  · rw [if_neg hb] at h; exact hB h

theorem evOp_mono {C C' : CallT} (hC : CLe C C') {fr : Fr} {H : Heap} {o : AOper} {K K' : Fr → Heap → Prop} {X X' : V → Heap → Prop}
    (hK : ∀ fr H, K fr H → K' fr H) (hX : ∀ v H, X v H → X' v H) (h : evOp C fr H o K X) : evOp C' fr H o K' X' := by
  obtain ⟨dst, op, g⟩ := o
  cases op <;> simp only [evOp] at h ⊢
  case call f args =>
    split at h
    · rename_i g l hc
      refine hC _ _ _ _ _ (fun o H' ho => ?_) h
      cases o with
      | ret v => exact hK _ _ ho
      | pan v => exact hX _ _ ho
    · exact h
  case dfr f args =>
    split at h
    · exact hK _ _ h
    · exact h
  case pan x =>
    split at h
    · exact hX _ _ h
    · exact h
  all_goals (split at h; exact hK _ _ h; exact h)

theorem evOps_mono {C C' : CallT} (hC : CLe C C') {K K' : Fr → Heap → Prop} {X X' : Fr → V → Heap → Prop}
    (hK : ∀ fr H, K fr H → K' fr H) (hX : ∀ fr v H, X fr v H → X' fr v H) : ∀ (l : List AOper) (fr : Fr) (H : Heap), evOps C X K l fr H → evOps C' X' K' l fr H
  | [], _, _, h => hK _ _ h
  | o :: r, fr, H, h => by
    have ih := evOps_mono hC hK hX r
    unfold evOps at h ⊢
    split at h
    · exact evOp_mono hC ih (hX fr) h
    · split at h
      · exact gif_mono (evOp_mono hC ih (hX fr)) (ih _ _) h
      · exact ih _ _ h
      · exact h

theorem evD_mono {C C' : CallT} (hC : CLe C C') {K K' : Fr → Heap → Prop} {X X' : Fr → V → Heap → Prop}
    (hK : ∀ fr H, K fr H → K' fr H) (hX : ∀ fr v H, X fr v H → X' fr v H) : ∀ (l acc : List AOper) (fr : Fr) (H : Heap), evD C X K acc l fr H → evD C' X' K' acc l fr H
  | [], _, _, _, h => hK _ _ h
  | o :: r, acc, fr, H, h => by
    have ih := evD_mono hC hK hX r (o :: acc)
    unfold evD at h ⊢
    split at h
    · exact evOp_mono hC (fun _ _ hk => ⟨hk.1, ih _ _ hk.2⟩) (hX fr) h
    · split at h
      · exact gif_mono (evOp_mono hC (fun _ _ hk => ⟨hk.1, ih _ _ hk.2⟩) (hX fr)) (ih _ _) h
      · exact ih _ _ h
      · exact h

theorem Iter_mono {F F' : Fr → Heap → Post → Prop} {Q Q' : Post} (hF : ∀ fr H Q Q', (∀ e fr H, Q e fr H → Q' e fr H) → F fr H Q → F' fr H Q')
    (hQ : ∀ e fr H, Q e fr H → Q' e fr H) {fr : Fr} {H : Heap} (h : Iter F Q fr H) : Iter F' Q' fr H := by
  intro I hI
  refine h I fun fr H hf => hI fr H (hF _ _ _ _ (fun e fr' H' he => ?_) hf)
  cases e <;> first | exact he | exact hQ _ _ _ he

theorem wpC_mono {C C' : CallT} (hC : CLe C C') : ∀ (c : Cd) {Q Q' : Post} (_ : ∀ e fr H, Q e fr H → Q' e fr H) (fr : Fr) (H : Heap), wpC C c Q fr H → wpC C' c Q' fr H
  | .skip, _, _, hQ, _, _, h => hQ _ _ _ h
  | .reg false _ _, _, _, hQ, _, _, h => evOps_mono hC (fun _ _ h => hQ _ _ _ h) (fun _ _ _ h => hQ _ _ _ h) _ _ _ h
  | .reg true _ _, _, _, hQ, _, _, h => evD_mono hC (fun _ _ h => hQ _ _ _ h) (fun _ _ _ h => hQ _ _ _ h) _ _ _ _ h
  | .seq a b, _, _, hQ, _, _, h => wpC_mono hC a (fun e fr' H' he => by
      cases e
      case normal => exact wpC_mono hC b hQ _ _ he
      all_goals exact hQ _ _ _ he) _ _ h
  | .cond c x y, Q, Q', hQ, fr, H, h => by
      unfold wpC at h ⊢
      split at h
      · exact gif_mono (wpC_mono hC x hQ _ _) (wpC_mono hC y hQ _ _) h
      · exact h
  | .block id c, _, _, hQ, _, _, h => wpC_mono hC c (fun e fr' H' he => by
      cases e
      case exit i =>
        dsimp only at he ⊢
        split
        · rename_i hi; rw [if_pos hi] at he; exact hQ _ _ _ he
        · rename_i hi; rw [if_neg hi] at he; exact hQ _ _ _ he
      all_goals exact hQ _ _ _ he) _ _ h
  | .loop live c, _, _, hQ, fr, H, h => Iter_mono (F := fun fr H Q => wpC C c Q (fr.keep live) H) (F' := fun fr H Q => wpC C' c Q (fr.keep live) H) (fun _ _ _ _ hq hf => wpC_mono hC c hq _ _ hf) hQ h
  | .exit _, _, _, hQ, _, _, h => hQ _ _ _ h
  | .ret, _, _, hQ, _, _, h => hQ _ _ _ h

theorem evDs_mono {nd : Nat → Bool} {C C' : CallT} (hC : CLe C C') {K K' : Heap → Prop} (hK : ∀ H, K H → K' H) : ∀ (l : List (Nat × List V)) (H : Heap), evDs nd C K l H → evDs nd C' K' l H
  | [], _, h => hK _ h
  | (g, l) :: r, H, h => ⟨h.1, hC _ _ _ _ _ (fun o H' ho => by
      cases o
      case ret v => exact evDs_mono hC hK r _ ho
      case pan v => exact ho) h.2⟩

theorem body_mono {nd : Nat → Bool} {F : AFun} {C C' : CallT} (hC : CLe C C') {l : List V} {H : Heap} {Q Q' : Out → Heap → Prop} (hQ : ∀ o H, Q o H → Q' o H)
    (h : body nd F C l H Q) : body nd F C' l H Q' := by
  refine ⟨h.1, wpC_mono hC _ (fun e fr' H' he => ?_) _ _ h.2⟩
  cases e
  case pan v => exact ⟨he.1, hQ _ _ he.2⟩
  case exit i => exact he
  all_goals
    refine ⟨he.1, evDs_mono hC (fun H'' hk => ?_) _ _ he.2⟩
    revert hk
    cases resOf fr' H'' F.res with
    | none => exact id
    | some vs => exact hQ _ _

theorem evG_mono {P : Prog} {C C' : CallT} (hC : CLe C C') : CLe (evG P C) (evG P C') := by
  intro g l H Q Q' hQ h
  unfold evG at *
  split at h
  · exact body_mono hC hQ h
  · exact h

theorem Call_le (P : Prog) : CLe (Call P) (Call P) := by
  intro g l H Q Q' hQ h
  refine h (fun g l H Q => ∀ Q', (∀ o H, Q o H → Q' o H) → Call P g l H Q') (fun g l H Q hb Q' hQ => ?_) Q' hQ
  intro I hI
  refine hI _ _ _ _ (evG_mono (fun g l H Q Q' hQ hi => ?_) _ _ _ _ _ hQ hb)
  exact hi Q' hQ I hI

theorem Call_mono {P : Prog} {g : Nat} {l : List V} {H : Heap} {Q Q' : Out → Heap → Prop} (h : Call P g l H Q) (hQ : ∀ o H', Q o H' → Q' o H') : Call P g l H Q' :=
  Call_le P g l H Q Q' hQ h

theorem Call_of {P : Prog} {g : Nat} {l : List V} {H : Heap} {Q : Out → Heap → Prop} (h : evG P (Call P) g l H Q) : Call P g l H Q := by
  intro I hI
  refine hI _ _ _ _ (evG_mono (fun g l H Q Q' hQ hc => ?_) _ _ _ _ _ (fun _ _ h => h) h)
  exact Call_mono hc hQ I hI

theorem Call_iff {P : Prog} {g : Nat} {l : List V} {H : Heap} {Q : Out → Heap → Prop} : Call P g l H Q ↔ evG P (Call P) g l H Q :=
  ⟨fun h => h (evG P (Call P)) (fun g l H Q hb => evG_mono (C := evG P (Call P)) (C' := Call P) (fun _ _ _ _ _ hQ hc => Call_mono (Call_of hc) hQ) g l H Q Q (fun _ _ h => h) hb), Call_of⟩

theorem Iter_of {F : Fr → Heap → Post → Prop} (hF : ∀ fr H Q Q', (∀ e fr H, Q e fr H → Q' e fr H) → F fr H Q → F fr H Q') {Q : Post} {fr : Fr} {H : Heap}
    (h : F fr H (fun e fr' H' => match e with | .normal => Iter F Q fr' H' | e => Q e fr' H')) : Iter F Q fr H := by
  intro I hI
  refine hI _ _ (hF _ _ _ _ (fun e fr' H' he => ?_) h)
  cases e <;> first | exact he | exact he I hI

/-- A function's call, from its body. -/
theorem call_body {P : Prog} {g : Nat} {F : AFun} {l : List V} {H : Heap} {Q : Out → Heap → Prop} (hg : P g = some F) (h : body (ndOf P) F (Call P) l H Q) : Call P g l H Q :=
  Call_of (by unfold evG; rw [hg]; exact h)

/-- A loop, from one round. -/
theorem wp_loop_round {P : Prog} {c : Cd} {live : List Nat} {Q : Post} {fr : Fr} {H : Heap}
    (h : wpC (Call P) c (fun e fr' H' => match e with | .normal => wpC (Call P) (.loop live c) Q fr' H' | e => Q e fr' H') (fr.keep live) H) : wpC (Call P) (.loop live c) Q fr H :=
  Iter_of (F := fun fr H Q => wpC (Call P) c Q (fr.keep live) H) (fun _ _ _ _ hq hf => wpC_mono (Call_le P) c hq _ _ hf) h

/-- A loop, by a relation and a measure. -/
theorem wp_loop_inv {P : Prog} {c : Cd} {live : List Nat} {Q : Post} (I : Nat → Fr → Heap → Prop)
    (round : ∀ n fr H, I n fr H → wpC (Call P) c (fun e fr' H' => match e with | .normal => ∃ m, m < n ∧ I m fr' H' | e => Q e fr' H') (fr.keep live) H) :
    ∀ n fr H, I n fr H → wpC (Call P) (.loop live c) Q fr H := by
  intro n
  induction n using Nat.strongRecOn with
  | _ n ih =>
    intro fr H hi
    refine wp_loop_round (wpC_mono (Call_le P) c (fun e fr' H' he => ?_) _ _ (round n fr H hi))
    cases e <;> first | exact he | (obtain ⟨m, hm, hI⟩ := he; exact ih m hm _ _ hI)

theorem wp_mono {P : Prog} {c : Cd} {Q Q' : Post} {fr : Fr} {H : Heap} (h : wpC (Call P) c Q fr H) (hQ : ∀ e fr H, Q e fr H → Q' e fr H) : wpC (Call P) c Q' fr H :=
  wpC_mono (Call_le P) c hQ _ _ h

theorem gif_of {b : Bool} {A B : Prop} (hA : b = true → A) (hB : b = false → B) : gif b A B := by
  unfold gif; cases b <;> simp_all
theorem gif_true (A B : Prop) : gif true A B = A := by simp [gif]
theorem gif_false (A B : Prop) : gif false A B = B := by simp [gif]

end Go.Ab
