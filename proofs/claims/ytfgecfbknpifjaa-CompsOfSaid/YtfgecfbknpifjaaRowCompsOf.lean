/- The row of the law CompsOf: for every input it returns true and the input reads as it did. Conditions: none beyond the row's own. -/
import Derived.Test.YtfgecfbknpifjaaRows
import Derived.Test.YtfgecfbknpifjaaK5
import Derived.Test.YtfgecfbknpifjaaHasCompsOf
import Derived.Test.YtfgecfbknpifjaaLawCompsOf
import Derived.WalkKit
import Derived.ProofKit
import Derived.OpenShut
import Derived.ShutString
import Derived.ChangeOld
import Derived.Below
import Derived.Carry
import Derived.SizedLaws
set_option linter.all false
namespace Go.Proofs.Ytfgecfbknpifjaa.compsOf
open Go.ChangeShapes Go.WideShapes Go.ChangeAt Go.RowKit Go.Ab
theorem own : ownKnob Try.prog.godebug = none := by kernel_rfl
theorem laidOut : laidOutB Try.prog = true := by kernel_rfl
def D : TD := .sl 40 (.agg [.int .i64, .int .i64, .sl 8 (.int .u64)])
set_option maxRecDepth 100000 in
theorem lifted (os : Os) (started : os.Started) (H : Type) (enc : TypeId × Value → H) :
    ReturnsInHanded {} Try.checked os 3 .any (Rows.compsOfSpec.pre6 enc Try.prog Try.f3 Rows.compsOfRow.domain false) (Rows.compsOfSpec.post enc Try.prog Try.f3 false true false false) := by
  refine returnsInHanded_of_change_sized (C := Try.checked) own started (by kernel_rfl) Try.func3
    (ChangeSpec.witness6 (enc := enc) (C := Try.checked) false ⟨#[], #[.slice none 0 0], []⟩ 8 (by kernel_rfl) (by kernel_rfl) (by kernel_rfl) (by kernel_rfl)) ?_
  intro W base args ds gs before hval0 hW hcnd hsz0 _
  have hsz : (DataW.weightsEach Try.prog (Try.f3.params.toList ++ Rows.compsOfSpec.plain.varTypes Try.prog) (ds ++ gs)).all (· ≤ reachBytes) = true := hsz0
  have hval : ∀ (j : Nat) t v, Try.f3.params[j]? = some t → args[j]? = some v → Value.okWide Try.prog W .any base t v := hval0
  have hW' := hW
  obtain ⟨p, q, hA0, hV, rfl, hfz, hnd⟩ := hW
  have hA : DataW.TrodAll enc Try.prog W 0 (fun _ => true) true Try.f3.params.toList args.toList ds p := hA0
  rw [Try.params3] at hA hval hsz
  obtain ⟨v0, vs0, d0, ds0, p0, q0, hargs, rfl, rfl, h0, r0⟩ := trodAll_cons hA
  obtain ⟨rfl, rfl, rfl⟩ := trodAll_nil r0
  obtain rfl : args = #[v0] := by cases args; simp_all
  obtain ⟨rfl, rfl⟩ := trodVars_none hV
  have lt0 : ∀ x ∈ p0, x.block < W.heap.size := by obtain ⟨m, hm⟩ := h0; exact DataW.trod_lt m _ _ _ hm
  have hv := hval 0 22 v0 rfl rfl
  have hok : okArg D v0 := by
    obtain ⟨a, len, cap, rfl⟩ := okWide_slice Try.underlying22 hv
    exact rfl
  have hw : (d0.weights Try.prog 22).all (· ≤ reachBytes) = true := by
    have h := hsz
    have e : (DataW.weightsEach Try.prog ([22] ++ Rows.compsOfSpec.plain.varTypes Try.prog) ([d0] ++ [])) = d0.weights Try.prog 22 ++ [] := rfl
    have h2 : (d0.weights Try.prog 22 ++ []).all (· ≤ reachBytes) = true := h
    rwa [List.append_nil] at h2
  refine (law_calls linked (g := 183) rfl D (by kernel_rfl) h0 hok hw fun H cs x h => law_CompsOf hasL10 hasL2 hasRfc hasOf H cs x h).mono fun e W' ⟨he, bel⟩ => ?_
  subst he
  exact ⟨_, rfl, _, _, _, [], _, [], hW', trodAll_mk1 (shut_bool Try.underlying4 _), (trodAll_cons_mk (Below.trod laidOut (by kernel_rfl) (of_decide_eq_true (by kernel_rfl)) h0 bel lt0) trodAll_mk0), rfl, bel.frame _, fun h => by cases h⟩
theorem over : Rows.compsOfRow.holds Try.pinned (OpenSpec.ofChange Rows.compsOfSpec) :=
  OpenClaim.holds_of_wide 3 Try.f3 rfl rfl rfl rfl rfl rfl rfl ⟨rfl, rfl, rfl, rfl, rfl⟩ rfl rfl rfl rfl rfl (by kernel_rfl) Try.func3 (by kernel_rfl)
    (of_decide_eq_true (by kernel_rfl)) (by unfold Func.isWrapper; first | (rw [if_pos (by decide +kernel)]; kernel_rfl) | (rw [if_neg (by decide +kernel)]; exact ⟨rfl, rfl⟩))
    (fun os started H enc _ => lifted os started H enc)
end Go.Proofs.Ytfgecfbknpifjaa.compsOf
namespace Go.Proofs.Ytfgecfbknpifjaa
/-- The row. -/
theorem compsOf_holds : Rows.CompsOfSaid := compsOf.over
#print axioms compsOf_holds
end Go.Proofs.Ytfgecfbknpifjaa
