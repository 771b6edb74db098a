/- The row of the law FileFaults: for every input it returns true and the input reads as it did. Conditions: none beyond the row's own. -/
import Derived.Test.YteihedfehcelhaaGreatFf1
import Derived.Test.YteihedfehcelhaaGreatFf2
import Derived.Test.YteihedfehcelhaaGreatFf3
import Derived.Test.YteihedfehcelhaaGreatFf4
import Derived.Test.YteihedfehcelhaaGreatFf5
import Derived.Test.YteihedfehcelhaaGreatFf6
import Derived.Test.YteihedfehcelhaaGreatFf7
import Derived.Test.YteihedfehcelhaaGreatRows
import Derived.Test.YteihedfehcelhaaGreatFfHas
import Derived.WalkKit
import Derived.ProofKit
import Derived.OpenShut
import Derived.ShutString
import Derived.ChangeOld
import Derived.Below
import Derived.Carry
import Derived.SizedLaws
set_option linter.all false
namespace Go.Proofs.YteihedfehcelhaaGreat.fileFaults
open Go.ChangeShapes Go.WideShapes Go.ChangeAt Go.RowKit Go.Ab
theorem own : ownKnob Tryz.prog.godebug = none := by kernel_rfl
theorem laidOut : laidOutB Tryz.prog = true := by kernel_rfl
def D : TD := .agg [.sl 104 (.agg [.int .i64, .int .i64, .int .i64, .sl 8 (.int .i64), .sl 1 .bool, .bool, .sl 1 (.int .u8)]), .int .i64, .int .i64]
set_option maxRecDepth 100000 in
theorem lifted (os : Os) (started : os.Started) (H : Type) (enc : TypeId × Value → H) :
    ReturnsInHanded {} Tryz.checked os 4 .any (Rows.fileFaultsSpec.pre6 enc Tryz.prog Tryz.f4 Rows.fileFaultsRow.domain false) (Rows.fileFaultsSpec.post enc Tryz.prog Tryz.f4 false true false false) := by
  refine returnsInHanded_of_change_sized (C := Tryz.checked) own started (by kernel_rfl) Tryz.func4
    (ChangeSpec.witness6 (enc := enc) (C := Tryz.checked) false ⟨#[], #[.agg #[.slice none 0 0, .int .i64 0, .int .i64 0]], []⟩ 8 (by kernel_rfl) (by kernel_rfl) (by kernel_rfl) (by kernel_rfl)) ?_
  intro W base args ds gs before hval0 hW hcnd hsz0 _
  have hsz : (DataW.weightsEach Tryz.prog (Tryz.f4.params.toList ++ Rows.fileFaultsSpec.plain.varTypes Tryz.prog) (ds ++ gs)).all (· ≤ reachBytes) = true := hsz0
  have hval : ∀ (j : Nat) t v, Tryz.f4.params[j]? = some t → args[j]? = some v → Value.okWide Tryz.prog W .any base t v := hval0
  have hW' := hW
  obtain ⟨p, q, hA0, hV, rfl, hfz, hnd⟩ := hW
  have hA : DataW.TrodAll enc Tryz.prog W 0 (fun _ => true) true Tryz.f4.params.toList args.toList ds p := hA0
  rw [Tryz.params4] at hA hval hsz
  obtain ⟨v0, vs0, d0, ds0, p0, q0, hargs, rfl, rfl, h0, r0⟩ := trodAll_cons hA
  obtain ⟨rfl, rfl, rfl⟩ := trodAll_nil r0
  obtain rfl : args = #[v0] := by cases args; simp_all
  obtain ⟨rfl, rfl⟩ := trodVars_none hV
  have lt0 : ∀ x ∈ p0, x.block < W.heap.size := by obtain ⟨m, hm⟩ := h0; exact DataW.trod_lt m _ _ _ hm
  have hv := hval 0 37 v0 rfl rfl
  have hok : okArg D v0 := by
    simp only [Value.okWide, Tryz.underlying37] at hv
    obtain ⟨cs, e, _⟩ := hv
    exact ⟨cs, e⟩
  have hw : (d0.weights Tryz.prog 37).all (· ≤ reachBytes) = true := by
    have h := hsz
    have e : (DataW.weightsEach Tryz.prog ([37] ++ Rows.fileFaultsSpec.plain.varTypes Tryz.prog) ([d0] ++ [])) = d0.weights Tryz.prog 37 ++ [] := rfl
    have h2 : (d0.weights Tryz.prog 37 ++ []).all (· ≤ reachBytes) = true := h
    rwa [List.append_nil] at h2
  refine (law_calls linked (g := 240) rfl D (by kernel_rfl) h0 hok hw fun H cs x h => law_FileFaults rfl hasFw hasFs hasSeg hasBits hasRf17 hasRf hasRb rfl rfl rfl hasL17 H cs x h).mono fun e W' ⟨he, bel⟩ => ?_
  subst he
  exact ⟨_, rfl, _, _, _, [], _, [], hW', trodAll_mk1 (shut_bool Tryz.underlying4 _), (trodAll_cons_mk (Below.trod laidOut (by kernel_rfl) (of_decide_eq_true (by kernel_rfl)) h0 bel lt0) trodAll_mk0), rfl, bel.frame _, fun h => by cases h⟩
theorem over : Rows.fileFaultsRow.holds Tryz.pinned (OpenSpec.ofChange Rows.fileFaultsSpec) :=
  OpenClaim.holds_of_wide 4 Tryz.f4 rfl rfl rfl rfl rfl rfl rfl ⟨rfl, rfl, rfl, rfl, rfl⟩ rfl rfl rfl rfl rfl (by kernel_rfl) Tryz.func4 (by kernel_rfl)
    (of_decide_eq_true (by kernel_rfl)) (by unfold Func.isWrapper; first | (rw [if_pos (by decide +kernel)]; kernel_rfl) | (rw [if_neg (by decide +kernel)]; exact ⟨rfl, rfl⟩))
    (fun os started H enc _ => lifted os started H enc)
end Go.Proofs.YteihedfehcelhaaGreat.fileFaults
namespace Go.Proofs.YteihedfehcelhaaGreat
/-- The row. -/
theorem fileFaults_holds : Rows.FileFaultsSaid := fileFaults.over
#print axioms fileFaults_holds
end Go.Proofs.YteihedfehcelhaaGreat
