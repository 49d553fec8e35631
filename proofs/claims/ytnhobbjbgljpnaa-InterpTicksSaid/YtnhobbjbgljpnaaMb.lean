/-
  THE CONSTANT PROGRAMS of the laws in plain Lean: that they are valid, and what their runs come to. Written in this session.
-/
import Derived.Test.YtnhobbjbgljpnaaMz
import Derived.Test.YtnhobbjbgljpnaaPb
import Derived.KernelRfl
namespace Go.Proofs.Ytnhobbjbgljpnaa
open Go.Ea
set_option maxRecDepth 100000
set_option linter.unusedVariables false
def pbF : Fn1 := pbP.funcs.headD fn0
theorem pb_chk : chkS pbP = 0 := by decide +kernel
theorem pb_low : LowP pbP := lowB_ok (by decide +kernel)
def tickT (n f k : Nat) : Bool := match ocB 100 pbP pbF [n, k] f with
  | none => false
  | some o => decide (o.out = (List.range (min n f)).map fun i => ((k + i : Nat) : Int)) && (if n + 1 ≤ f then decide (o.kind = 1) && decide (o.value = 2 * (n + k)) else decide (o.kind = 3))
theorem tick_all : ((List.range 12).all fun n => (List.range 16).all fun f => (List.range 5).all fun k => tickT n f k) = true := by decide +kernel

theorem tick_law (n f k : Nat) (hn : n < 12) (hf : f < 16) (hk : k < 5) : ∃ o, runS pbP [102] [(n : Int), (k : Int)] (f : Int) = o ∧ o.out = (List.range (min n f)).map (fun i => ((k + i : Nat) : Int)) ∧ (n + 1 ≤ f → o.kind = 1 ∧ o.value = 2 * ((n + k : Nat) : Int)) ∧ (¬ n + 1 ≤ f → o.kind = 3) := by
  have h := tick_all
  rw [List.all_eq_true] at h
  have h := h n (List.mem_range.2 hn)
  rw [List.all_eq_true] at h
  have h := h f (List.mem_range.2 hf)
  rw [List.all_eq_true] at h
  have h := h k (List.mem_range.2 hk)
  unfold tickT at h
  cases ho : ocB 100 pbP pbF [(n : Int), (k : Int)] f with
  | none => rw [ho] at h; cases h
  | some o =>
    rw [ho] at h
    simp only [Bool.and_eq_true, decide_eq_true_eq] at h
    refine ⟨o, (runS_of pb_chk (by omega) rfl rfl).trans (ocB_ok ho), h.1, fun q => ?_, fun q => ?_⟩
    · have h2 := h.2
      rw [if_pos q] at h2
      simp only [Bool.and_eq_true, decide_eq_true_eq] at h2
      exact ⟨h2.1, by rw [h2.2]; omega⟩
    · have h2 := h.2
      rw [if_neg q] at h2
      exact of_decide_eq_true h2
end Go.Proofs.Ytnhobbjbgljpnaa
