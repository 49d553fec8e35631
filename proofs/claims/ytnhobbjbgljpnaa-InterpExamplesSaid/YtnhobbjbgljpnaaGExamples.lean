/-
  Rows.InterpExamplesSaid: whatever the world, the Go function fullinglaw6.InterpExamples returns true and leaves what was there as it was. No conditions. The call is evaluated by the engine's evaluator (runA), which is proved sound against the model.
-/
import Derived.Test.YtnhobbjbgljpnaaRows
import Derived.Test.YtnhobbjbgljpnaaGb
import Derived.WalkKit
import Derived.ProofKit
import Derived.OpenShut
namespace Go.Proofs.Ytnhobbjbgljpnaa.interpExamples
open Go.ChangeShapes Go.WideShapes Go.ChangeAt Go.RowKit
set_option linter.unusedVariables false
set_option maxRecDepth 100000

theorem own : ownKnob Try.prog.godebug = none := by kernel_rfl

theorem known : ∀ e ∈ [eParse], Go.Ea.EntOk Try.prog e := by
  intro e he
  simp only [List.mem_cons, List.not_mem_nil, or_false] at he
  subst he; exact eParse_ok
theorem run_ok (n : Nat) : Go.Ea.OrcOk Try.prog (Go.Ea.runT Try.prog eqs (Go.Ea.plsOf tab out) (Go.Ea.tbE [eParse]) n) := Go.Ea.runT_sound mixed eqsOk fnsOk' (Go.Ea.tbE_ok known) n
theorem value : Go.Ea.okA (Go.Ea.runT Try.prog eqs (Go.Ea.plsOf tab out) (Go.Ea.tbE [eParse]) 100 3 [] Go.Ea.Heap.empty) = true := by decide +kernel
theorem walk (w : World) : Calls Try.prog 3 #[] w fun e w' => e = .returned (.bool true) ∧ Grown w w' := by
  obtain ⟨H', h⟩ := Go.Ea.okA_spec value
  exact Go.Ea.closed_true (run_ok _ _ _ _ _ _ h).2 w

theorem lifted (os : Os) (started : os.Started) (H : Type) (enc : TypeId × Value → H) :
    ReturnsInHanded {} Try.checked os 3 .any (Rows.interpExamplesSpec.pre6 enc Try.prog Try.f3 Rows.interpExamplesRow.domain false) (Rows.interpExamplesSpec.post enc Try.prog Try.f3 false true false false) := by
  refine returnsInHanded_of_change (C := Try.checked) own started (by kernel_rfl) Try.func3
    (ChangeSpec.witness6 (enc := enc) (C := Try.checked) false ⟨#[], #[], []⟩ 8 (by kernel_rfl) (by kernel_rfl) (by kernel_rfl) (by kernel_rfl)) ?_
  intro W base args ds gs before hval0 hW hcnd _
  have hval : ∀ (j : Nat) t v, Try.f3.params[j]? = some t → args[j]? = some v → Value.okWide Try.prog W .any base t v := hval0
  have hW' := hW
  obtain ⟨p, q, hA0, hV, rfl, hfz, hnd⟩ := hW
  have hA : DataW.TrodAll enc Try.prog W 0 (fun _ => true) true Try.f3.params.toList args.toList ds p := hA0
  rw [Try.params3] at hA hval
  obtain ⟨rfl, rfl, rfl⟩ := trodAll_none hA
  obtain ⟨rfl, rfl⟩ := trodVars_none hV
  clear hA0 hval0
  simp only [List.append_nil] at hW'
  refine (walk W).mono fun e W' ⟨he, hg⟩ => ?_
  subst he
  exact ⟨_, rfl, post_of_same (pa := []) (pv := []) hW' (fun _ _ _ => (trodAll_cons_mk (shut_bool Try.underlying4 _) trodAll_mk0)) (fun sp _ => rfl) (fun _ _ => rfl) rfl
    (hg.frame _) hg.2.1 (ok_one (by kernel_rfl) rfl (okWide_bool_mk Try.underlying4 _))⟩

theorem over : Rows.interpExamplesRow.holds Try.pinned (OpenSpec.ofChange Rows.interpExamplesSpec) :=
  OpenClaim.holds_of_wide 3 Try.f3 rfl rfl rfl rfl rfl rfl rfl ⟨rfl, rfl, rfl, rfl, rfl⟩ rfl rfl rfl rfl rfl (by kernel_rfl) Try.func3 (by kernel_rfl)
    (of_decide_eq_true (by kernel_rfl)) (by unfold Func.isWrapper; first | (rw [if_pos (by decide +kernel)]; kernel_rfl) | (rw [if_neg (by decide +kernel)]; exact ⟨rfl, rfl⟩))
    (fun os started H enc _ => lifted os started H enc)

theorem proved : Rows.InterpExamplesSaid :=
  over
end Go.Proofs.Ytnhobbjbgljpnaa.interpExamples
#print axioms Go.Proofs.Ytnhobbjbgljpnaa.interpExamples.proved
