/-
  The chapter's examples as a contract at every heap. Written in this session.
-/
import Derived.Test.YtnhobbjbgljpnaaGb
import Derived.Test.YtnhobbjbgljpnaaEd1
namespace Go.Proofs.Ytnhobbjbgljpnaa
open Go.Ea
set_option maxRecDepth 100000
theorem knownParse : ∀ e ∈ [eParse], EntOk Try.prog e := by
  intro e he
  simp only [List.mem_cons, List.not_mem_nil, or_false] at he
  subst he; exact eParse_ok
theorem knownRun (n : Nat) : OrcOk Try.prog (Go.Ea.runT Try.prog eqs (plsOf tab out) (tbE [eParse]) n) := Go.Ea.runT_sound mixed eqsOk fnsOk' (tbE_ok knownParse) n
theorem examples_value : okA (Go.Ea.runT Try.prog eqs (plsOf tab out) (tbE [eParse]) 100 3 [] Heap.empty) = true := by decide +kernel
theorem iexamples_ok (H : Heap) : Sim Try.prog 3 [] H fun u G => u = at' (.bool true) ∧ G = H := by
  obtain ⟨X, h⟩ := okA_spec examples_value
  exact Sim.of_run (knownRun 100) h (by simp) rfl H
end Go.Proofs.Ytnhobbjbgljpnaa
