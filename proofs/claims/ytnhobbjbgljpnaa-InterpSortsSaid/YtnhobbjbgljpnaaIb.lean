/-
  CONTRACTS of the interpreter's machine (printed by wip/tools/walk.py from wip/specs/intB.py). Written in this session.
-/
import Derived.Test.YtnhobbjbgljpnaaIa
namespace Go.Proofs.Ytnhobbjbgljpnaa
open Go.Ea
set_option maxRecDepth 100000
set_option linter.unusedVariables false
set_option linter.unusedSimpArgs false
/-- The parts of a machine that a run does not change: where the program and the maps lie. -/
structure Fix where
  pa : Option (Nat × Nat)
  na : Nat
  pf : Option (Nat × Nat)
  nf : Nat
  mc : Nat
  mf : Nat
/-- How far a run is. -/
structure Ctl where
  fuel : Nat
  en : Int
  code : Int
def mcC (F : Fix) (c : Ctl) (out : AT) : List AT := [.slice F.pa F.na, .slice F.pf F.nf, .map (some F.mc), .map (some F.mf), .int .i64 c.fuel, .int .i64 c.en, .int .i64 c.code, out]
def tickS (c : Ctl) : Ctl := if c.en ≠ 0 then c else if c.fuel = 0 then { c with en := 3 } else { c with fuel := c.fuel - 1 }
def trapS (c : Ctl) (code : Int) : Ctl := if c.en = 0 then { c with en := 2, code := code } else c

theorem tick_ok (x : Nat) (F : Fix) (c : Ctl) (out : AT) (H : Heap) (hc : H.get x = some (.cells 77 1 (mcC F c out))) (hfu : c.fuel < 4611686018427387904) : Sim Try.prog 84 [at' (.ptr (some (x, 0)))] H (fun u G => G.get x = some (.cells 77 1 (mcC F (tickS c) out)) ∧ Kp [x] H G ∧ G.n = H.n) := by
 have hxl := Heap.get_lt hc
 refine Sim.of_tri Try.func84 rfl ?_
 show TrP 22 _ _ _ _
 refine Tri.seq ?_
 refine Tri.seq ?_
 refine tR ?_
 iterate 2 refine sV rfl rfl rfl ?_
 refine sO rfl rfl (oW (at' (.ptr (some (_, _ + 5)))) rfl rfl ?_)
 refine sO rfl rfl (oLoad (x := .at _) rfl gG rfl ?_)
 refine sO rfl rfl (oNE rfl (fun h6 => ?_) (fun h6 => ?_))
 ·
  show TrP 22 _ _ _ _
  refine tH [(0, _), (6, _)] ?_
  refine tT rfl ?_
  refine Tri.ret ?_
  refine ⟨trivial, _, rfl, ?_⟩
  have e : tickS c = c := by unfold tickS; rw [if_pos h6]
  rw [e]; exact ⟨hc, Kp.refl, rfl⟩
 ·
  show TrP 22 _ _ _ _
  refine tH [(0, _), (6, _)] ?_
  refine tF rfl ?_
  refine Tri.skip ?_
  show TrP 22 _ _ _ _
  refine tH [(0, _), (6, _)] ?_
  refine Tri.seq ?_
  refine Tri.seq ?_
  refine tR ?_
  iterate 2 refine sV rfl rfl rfl ?_
  refine sO rfl rfl (oW (at' (.ptr (some (_, _ + 4)))) rfl rfl ?_)
  refine sO rfl rfl (oLoad (x := .at _) rfl gG rfl ?_)
  refine sO rfl rfl (oE rfl (fun h11 => ?_) (fun h11 => ?_))
  ·
   show TrP 22 _ _ _ _
   refine tH [(0, _), (6, _), (11, _)] ?_
   refine tT rfl ?_
   refine Tri.seq ?_
   refine tR ?_
   iterate 2 refine sV rfl rfl rfl ?_
   refine sO rfl rfl (oW (at' (.ptr (some (_, _ + 5)))) rfl rfl ?_)
   refine sO rfl rfl (oStore (n := 1) (cs' := [.slice F.pa F.na, .slice F.pf F.nf, .map (some F.mc), .map (some F.mf), .int .i64 c.fuel, .int .i64 3, .int .i64 c.code, out]) rfl rfl rfl gG rfl (Nat.le_of_ble_eq_true rfl) rfl rfl ?_)
   show TrP 22 _ _ _ _
   refine tH [(0, _), (6, _), (11, _)] ?_
   refine Tri.ret ?_
   refine ⟨trivial, _, rfl, ?_⟩
   have e : tickS c = { c with en := 3 } := by unfold tickS; rw [if_neg (by omega), if_pos (by omega)]
   rw [e]; exact ⟨gG, kQ, rfl⟩
  ·
   show TrP 22 _ _ _ _
   refine tH [(0, _), (6, _), (11, _)] ?_
   refine tF rfl ?_
   refine Tri.skip ?_
   show TrP 22 _ _ _ _
   refine tH [(0, _), (6, _), (11, _)] ?_
   refine tR ?_
   iterate 2 refine sV rfl rfl rfl ?_
   refine sO rfl rfl (oW (at' (.ptr (some (_, _ + 4)))) rfl rfl ?_)
   refine sO rfl rfl (oLoad (x := .at _) rfl gG rfl ?_)
   refine sO rfl rfl (oSub (m := 1) rfl (by omega) (by omega) ?_)
   refine sV rfl rfl rfl ?_
   refine sO rfl rfl (oW (at' (.ptr (some (_, _ + 4)))) rfl rfl ?_)
   refine sO rfl rfl (oStore (n := 1) (cs' := [.slice F.pa F.na, .slice F.pf F.nf, .map (some F.mc), .map (some F.mf), .int .i64 ((c.fuel - 1 : Nat) : Int), .int .i64 c.en, .int .i64 c.code, out]) rfl rfl rfl gG rfl (Nat.le_of_ble_eq_true rfl) rfl rfl ?_)
   refine ⟨trivial, _, rfl, ?_⟩
   have e : tickS c = { c with fuel := c.fuel - 1 } := by unfold tickS; rw [if_neg (by omega), if_neg (by omega)]
   rw [e]; exact ⟨gG, kQ, rfl⟩
theorem trap_ok (x : Nat) (F : Fix) (c : Ctl) (out : AT) (k : Int) (H : Heap) (hc : H.get x = some (.cells 77 1 (mcC F c out))) : Sim Try.prog 73 [at' (.ptr (some (x, 0))), at' (.int .i64 k)] H (fun u G => G.get x = some (.cells 77 1 (mcC F (trapS c k) out)) ∧ Kp [x] H G ∧ G.n = H.n) := by
 have hxl := Heap.get_lt hc
 refine Sim.of_tri Try.func73 rfl ?_
 show TrP 16 _ _ _ _
 refine Tri.seq ?_
 refine tR ?_
 iterate 2 refine sV rfl rfl rfl ?_
 refine sO rfl rfl (oW (at' (.ptr (some (_, _ + 5)))) rfl rfl ?_)
 refine sO rfl rfl (oLoad (x := .at _) rfl gG rfl ?_)
 refine sO rfl rfl (oE rfl (fun h8 => ?_) (fun h8 => ?_))
 ·
  show TrP 16 _ _ _ _
  refine tH [(0, _), (1, _), (8, _)] ?_
  refine tT rfl ?_
  refine tR ?_
  iterate 4 refine sV rfl rfl rfl ?_
  refine sO rfl rfl (oW (at' (.ptr (some (_, _ + 5)))) rfl rfl ?_)
  refine sO rfl rfl (oStore (n := 1) (cs' := [.slice F.pa F.na, .slice F.pf F.nf, .map (some F.mc), .map (some F.mf), .int .i64 c.fuel, .int .i64 2, .int .i64 c.code, out]) rfl rfl rfl gG rfl (Nat.le_of_ble_eq_true rfl) rfl rfl ?_)
  refine sV rfl rfl rfl ?_
  refine sO rfl rfl (oW (at' (.ptr (some (_, _ + 6)))) rfl rfl ?_)
  refine sO rfl rfl (oStore (n := 1) (cs' := [.slice F.pa F.na, .slice F.pf F.nf, .map (some F.mc), .map (some F.mf), .int .i64 c.fuel, .int .i64 2, .int .i64 k, out]) rfl rfl rfl gG rfl (Nat.le_of_ble_eq_true rfl) rfl rfl ?_)
  refine ⟨trivial, _, rfl, ?_⟩
  have e : trapS c k = { c with en := 2, code := k } := by unfold trapS; rw [if_pos h8]
  rw [e]; exact ⟨gG, kQ, rfl⟩
 ·
  show TrP 16 _ _ _ _
  refine tH [(0, _), (1, _), (8, _)] ?_
  refine tF rfl ?_
  refine Tri.skip ?_
  refine ⟨trivial, _, rfl, ?_⟩
  have e : trapS c k = c := by unfold trapS; rw [if_neg h8]
  rw [e]; exact ⟨hc, Kp.refl, rfl⟩
end Go.Proofs.Ytnhobbjbgljpnaa
