/-
  CONTRACTS of what the laws call: Pick, the chapter's examples (printed by wip/tools/walk.py from wip/specs/keepA.py). Written in this session.
-/
import Derived.Test.YtceakkomleaibaaCf
import Derived.Test.YtceakkomleaibaaEd1
namespace Go.Proofs.Ytceakkomleaibaa
open Go.Ea
set_option maxRecDepth 100000
set_option linter.unusedVariables false
set_option linter.unusedSimpArgs false

theorem examples_value : okA (runA Try.prog eqs (plsOf tab out) 100 3 [] Heap.empty) = true := by decide +kernel
theorem examples_ok (H : Heap) : Sim Try.prog 3 [] H fun u G => u = at' (.bool true) ∧ G = H := by
  obtain ⟨X, h⟩ := okA_spec examples_value
  exact Sim.of_run (run_sound 100) h (by simp) rfl H

def pk (n : Int) (m : Nat) : Nat := (n % (m : Int)).toNat
theorem pk_lt (n : Int) (m : Nat) (hm : 0 < m) : pk n m < m := by
  have h1 := Int.emod_nonneg n (b := (m : Int)) (by omega)
  have h2 := Int.emod_lt_of_pos n (b := (m : Int)) (by omega)
  unfold pk; omega
theorem pk_tmod (n : Int) (m : Nat) (hm : 0 < m) : -(m : Int) < n.tmod m ∧ n.tmod m < m ∧ (pk n m : Int) = if n.tmod m < 0 then n.tmod m + m else n.tmod m := by
  have h1 := Int.tmod_lt_of_pos n (b := (m : Int)) (by omega)
  have h2 := Int.lt_tmod_of_pos n (b := (m : Int)) (by omega)
  have h3 := Int.mul_tdiv_add_tmod n m
  have h4 : n % (m : Int) = (n.tmod m) % m := by
    conv => lhs; rw [← h3]
    rw [Int.mul_add_emod_self_left]
  have h5 := Int.emod_nonneg n (b := (m : Int)) (by omega)
  refine ⟨h2, h1, ?_⟩
  have h6 : (pk n m : Int) = n % m := by unfold pk; omega
  rw [h6, h4]
  split
  · rw [← Int.add_emod_right, Int.emod_eq_of_lt (by omega) (by omega)]
  · rw [Int.emod_eq_of_lt (by omega) (by omega)]

theorem Pick_ok (n : Int) (m : Nat) (H : Heap) (hm : 0 < m) (hm2 : m < 4611686018427387904) : Sim Try.prog 12 [at' (.int .i64 n), at' (.int .i64 m)] H (fun u G => u = at' (.int .i64 (pk n m)) ∧ G = H) := by
 obtain ⟨p1, p2, p3⟩ := pk_tmod n m hm
 refine Sim.of_tri Try.func12 rfl ?_
 show TrP 14 _ _ _ _
 refine Tri.seq ?_
 refine tR ?_
 refine sV rfl rfl rfl ?_
 show TrP 14 _ _ _ _
 refine tH [(0, _), (1, _), (4, _)] ?_
 refine Tri.seq ?_
 refine tR ?_
 iterate 2 refine sV rfl rfl rfl ?_
 refine sO rfl rfl (oRem rfl rfl (by omega) ?_)
 refine sV rfl rfl rfl ?_
 show TrP 14 _ _ _ _
 refine tH [(0, _), (1, _), (4, _)] ?_
 refine Tri.seq ?_
 refine Tri.seq ?_
 refine tR ?_
 refine sV rfl rfl rfl ?_
 refine sO rfl rfl (oP rfl (fun h9 => ?_) (fun h9 => ?_))
 ·
  show TrP 14 _ _ _ _
  refine tH [(0, _), (1, _), (4, _), (9, _)] ?_
  refine tT rfl ?_
  refine tR ?_
  iterate 2 refine sV rfl rfl rfl ?_
  refine sO rfl rfl (oArith rfl (by omega) (by omega) ?_)
  refine sV rfl rfl rfl ?_
  show TrP 14 _ _ _ _
  refine tH [(0, _), (1, _), (4, _), (9, _)] ?_
  refine Tri.seq ?_
  refine tR ?_
  iterate 2 refine sV rfl rfl rfl ?_
  show TrP 14 _ _ _ _
  refine tH [(0, _), (1, _), (4, _), (9, _)] ?_
  refine Tri.ret ?_
  refine ⟨trivial, _, rfl, ?_⟩
  first
    | (rw [if_pos h9] at p3; rw [p3]; exact ⟨rfl, rfl⟩)
    | (rw [if_neg h9] at p3; rw [p3]; exact ⟨rfl, rfl⟩)
 ·
  show TrP 14 _ _ _ _
  refine tH [(0, _), (1, _), (4, _), (9, _)] ?_
  refine tF rfl ?_
  refine Tri.skip ?_
  show TrP 14 _ _ _ _
  refine tH [(0, _), (1, _), (4, _), (9, _)] ?_
  refine Tri.seq ?_
  refine tR ?_
  iterate 2 refine sV rfl rfl rfl ?_
  show TrP 14 _ _ _ _
  refine tH [(0, _), (1, _), (4, _), (9, _)] ?_
  refine Tri.ret ?_
  refine ⟨trivial, _, rfl, ?_⟩
  first
    | (rw [if_pos h9] at p3; rw [p3]; exact ⟨rfl, rfl⟩)
    | (rw [if_neg h9] at p3; rw [p3]; exact ⟨rfl, rfl⟩)
end Go.Proofs.Ytceakkomleaibaa
