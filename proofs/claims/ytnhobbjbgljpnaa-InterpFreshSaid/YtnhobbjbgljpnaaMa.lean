/-
  THE CONSTANT PROGRAMS of the laws in plain Lean: that they are valid, and what their runs come to. Written in this session.
-/
import Derived.Test.YtnhobbjbgljpnaaMz
import Derived.Test.YtnhobbjbgljpnaaPa
import Derived.KernelRfl
namespace Go.Proofs.Ytnhobbjbgljpnaa
open Go.Ea
set_option maxRecDepth 100000
set_option linter.unusedVariables false
def paF : Fn1 := paP.funcs.headD fn0
theorem pa_chk : chkS paP = 0 := by decide +kernel
theorem pa_low : LowP paP := lowB_ok (by decide +kernel)
theorem pa_oc : ocB 40 paP paF [2] 0 = some ⟨1, 0, [], 1⟩ := by decide +kernel
theorem pa_run : runS paP [102] [2] 0 = ⟨1, 0, [], 1⟩ := (runS_of (fuel := 0) pa_chk (by decide) rfl rfl).trans (ocB_ok pa_oc)
end Go.Proofs.Ytnhobbjbgljpnaa
