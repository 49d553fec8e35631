/-
  THE CONSTANT PROGRAMS of the laws in plain Lean: that they are valid, and what their runs come to. Written in this session.
-/
import Derived.Test.YtnhobbjbgljpnaaIl
import Derived.KernelRfl
namespace Go.Proofs.Ytnhobbjbgljpnaa
open Go.Ea
set_option maxRecDepth 100000
set_option linter.unusedVariables false
noncomputable def lowB (p : Pr) : Bool := decide (p.arrays.length < 2305843009213693952) && (decide (p.funcs.length < 2305843009213693952) && p.funcs.all fun f => decide (htE f.value < 2305843009213693952) && (f.body.all (fun s => decide (htS s < 2305843009213693952)) && (decide (f.body.length < 2305843009213693952) && (decide (f.params.length < 2305843009213693952) && decide (f.locals.length < 2305843009213693952)))))
theorem lowB_ok {p : Pr} (h : lowB p = true) : LowP p := by
  unfold lowB at h
  simp only [Bool.and_eq_true, decide_eq_true_eq, List.all_eq_true] at h
  obtain ⟨h1, h2, h3⟩ := h
  refine ⟨h1, h2, fun f hf => ?_⟩
  obtain ⟨q1, q2, q3, q4, q5⟩ := h3 f hf
  exact ⟨⟨q1, q2, q3⟩, q4, q5⟩
def fn0 : Fn1 := ⟨[], [], [], [], .zero⟩
end Go.Proofs.Ytnhobbjbgljpnaa
