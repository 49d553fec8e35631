/-
  THE CONSTANT PROGRAMS of the laws in plain Lean: that they are valid, and what their runs come to. Written in this session.
-/
import Derived.Test.YtnhobbjbgljpnaaMz
import Derived.Test.YtnhobbjbgljpnaaPd
import Derived.KernelRfl
namespace Go.Proofs.Ytnhobbjbgljpnaa
open Go.Ea
set_option maxRecDepth 100000
set_option linter.unusedVariables false
/-! ### laziness -/
def pdA : Fn1 := pdP.funcs.getD 0 fn0
def pdB : Fn1 := pdP.funcs.getD 1 fn0
def pdC : Fn1 := pdP.funcs.getD 2 fn0
def pdD : Fn1 := pdP.funcs.getD 3 fn0
theorem pd_chk : chkS pdP = 0 := by decide +kernel
theorem pd_low : LowP pdP := lowB_ok (by decide +kernel)
theorem lz_law (c x : Int) : ∃ of og oh ok, runS pdP [102] [c, x] 0 = of ∧ runS pdP [103] [c, x] 0 = og ∧ runS pdP [104] [c, x] 0 = oh ∧ runS pdP [107] [c, x] 0 = ok ∧
    (c ≠ 0 → of.kind = 1 ∧ of.value = x ∧ og.kind = 2 ∧ og.code = 2) ∧ (c = 0 → of.kind = 2 ∧ of.code = 1 ∧ og.kind = 1 ∧ og.value = x) ∧ oh.code = 2 ∧ ok.code = 1 := by
  have hh : ocB 20 pdP pdC [c, x] 0 = some ⟨2, 2, [], 0⟩ := by kernel_rfl
  have hk : ocB 20 pdP pdD [c, x] 0 = some ⟨2, 1, [], 0⟩ := by kernel_rfl
  refine ⟨_, _, _, _, runS_of (fuel := 0) (g := pdA) pd_chk (by decide) rfl rfl, runS_of (fuel := 0) (g := pdB) pd_chk (by decide) rfl rfl, (runS_of (fuel := 0) (g := pdC) pd_chk (by decide) rfl rfl).trans (ocB_ok hh), (runS_of (fuel := 0) (g := pdD) pd_chk (by decide) rfl rfl).trans (ocB_ok hk), fun hc => ?_, fun hc => ?_, rfl, rfl⟩
  · have h1 : ocB 20 pdP pdA [c, x] 0 = some ⟨1, 0, [], x⟩ := by
      show (match (if c ≠ 0 then some ((⟨0, 0, 0⟩ : Ctl), x) else _) with | none => none | some r => _) = _
      rw [if_pos hc]; rfl
    have h2 : ocB 20 pdP pdB [c, x] 0 = some ⟨2, 2, [], 0⟩ := by
      show (match (if c ≠ 0 then some ((⟨0, 2, 2⟩ : Ctl), (0 : Int)) else _) with | none => none | some r => _) = _
      rw [if_pos hc]; rfl
    rw [ocB_ok h1, ocB_ok h2]
    exact ⟨rfl, rfl, rfl, rfl⟩
  · subst hc
    have h1 : ocB 20 pdP pdA [0, x] 0 = some ⟨2, 1, [], 0⟩ := by kernel_rfl
    have h2 : ocB 20 pdP pdB [0, x] 0 = some ⟨1, 0, [], x⟩ := by kernel_rfl
    rw [ocB_ok h1, ocB_ok h2]
    exact ⟨rfl, rfl, rfl, rfl⟩
end Go.Proofs.Ytnhobbjbgljpnaa
