/-
  THE WALK of fullinglaw6.InterpTraps (printed by wip/tools/walk.py from wip/specs/intITraps.py). Written in this session.
-/
import Derived.Test.YtnhobbjbgljpnaaIk
import Derived.Test.YtnhobbjbgljpnaaMe
namespace Go.Proofs.Ytnhobbjbgljpnaa
open Go.Ea
set_option maxRecDepth 100000
set_option linter.unusedVariables false
set_option linter.unusedSimpArgs false
theorem row1o {H : Heap} {id : Nat} {T : TypeId} {k : Nat} {a : Int} (h : H.get id = some (.cells T k [.int .i64 a])) : RowR H numC 1 [a] (some (id, 0)) := ⟨fun e => (by cases e), fun i o e => .inr (by cases e; exact ⟨T, k, _, h, by simp, rfl⟩)⟩

set_option maxHeartbeats 4000000 in
theorem traps_ok (n0 n1 n2 : Int) (H : Heap) : Sim Try.prog 11 [at' (.int .i64 n0), at' (.int .i64 n1), at' (.int .i64 n2)] H (fun u G => u = at' (.bool true) ∧ True) := by
 have hk := pk_lt n0 9 (by omega)
 have hm := pk_lt n2 12 (by omega)
 have hc := pk_lt n1 1000001 (by omega)
 obtain ⟨o1, hO1, hA, hB⟩ := trap_law (pk n1 1000001) (pk n0 9) (pk n2 12) hc hk hm
 refine Sim.of_tri Try.func11 rfl ?_
 show TrP 113 _ _ _ _
 refine Tri.seq ?_
 refine tR ?_
 refine sV rfl rfl rfl ?_
 show TrP 113 _ _ _ _
 refine tH [(0, _), (1, _), (2, _), (6, _)] ?_
 refine Tri.seq ?_
 refine tR ?_
 refine sV rfl rfl rfl ?_
 refine sO rfl rfl (oF rfl (fnOk_of Try.func18 (by decide) rfl) (Pick_ok _ 9 _ (by omega) (by omega)) ?_)
 refine sV rfl rfl rfl ?_
 refine sO rfl rfl (oF rfl (fnOk_of Try.func18 (by decide) rfl) (Pick_ok _ 1000001 _ (by omega) (by omega)) ?_)
 refine sV rfl rfl rfl ?_
 refine sO rfl rfl (oF rfl (fnOk_of Try.func18 (by decide) rfl) (Pick_ok _ 12 _ (by omega) (by omega)) ?_)
 iterate 3 refine sV rfl rfl rfl ?_
 show TrP 113 _ _ _ _
 refine tH [(0, _), (1, _), (2, _), (6, _), (7, _), (8, _), (9, _)] ?_
 refine Tri.seq ?_
 refine tR ?_
 refine sO rfl rfl (oC rfl (fnOk_of Try.func12 (by decide) rfl) (pf_at _) ?_)
 rintro u G2 ⟨rfl, hap⟩
 obtain ⟨gF, gW, ⟨rI, gI⟩, gT⟩ := pf_objs hap
 have lF := Heap.get_lt gF
 have lW := Heap.get_lt gW
 have lI := Heap.get_lt gI
 have lT := Heap.get_lt gT
 iterate 3 refine sV rfl rfl rfl ?_
 refine sO rfl rfl (oAlloc (cs := [.slice none 0, .slice none 0]) rfl rfl ?_)
 refine sO rfl rfl (oAlloc (cs := [.int .i64 0, .int .i64 0]) rfl rfl ?_)
 refine sO rfl rfl (oStore (n := 2) (cs' := [_, _]) rfl rfl rfl gG rfl (Nat.le_of_ble_eq_true rfl) rfl rfl ?_)
 refine sO rfl rfl (oStore (n := 2) (cs' := [_, _]) rfl rfl rfl gG rfl (Nat.le_of_ble_eq_true rfl) rfl rfl ?_)
 show TrP 113 _ _ _ _
 refine tH [(0, _), (1, _), (2, _), (6, _), (7, _), (8, _), (9, _), (10, _)] ?_
 refine Tri.seq ?_
 refine Tri.seq ?_
 refine tR ?_
 refine sO rfl rfl (oW (at' (.ptr (some (_, 1)))) rfl rfl ?_)
 refine sO rfl rfl (oLoad (x := .at _) rfl gG rfl ?_)
 refine sV rfl rfl rfl ?_
 refine sO rfl rfl (oNE rfl (fun h26 => absurd rfl h26) (fun h26 => ?_))
 refine sV rfl rfl rfl ?_
 refine sO rfl rfl (oW (at' (.ptr (some (_, 1)))) rfl rfl ?_)
 refine sO rfl rfl (oLoad (x := .at _) rfl gG rfl ?_)
 refine sO rfl rfl (oIA (z := 9) (i := 0) rfl rfl rfl rfl (by omega) ?_)
 refine sO rfl rfl (oW (at' (.ptr (some (_, _ + 3)))) rfl rfl ?_)
 refine sO rfl rfl (oLoad (x := .at _) rfl gG rfl ?_)
 refine sV rfl rfl rfl ?_
 refine sO rfl rfl (oNE rfl (fun h34 => absurd rfl h34) (fun h34 => ?_))
 iterate 2 refine sV rfl rfl rfl ?_
 refine sO rfl rfl (oW (at' (.ptr (some (_, 1)))) rfl rfl ?_)
 refine sO rfl rfl (oLoad (x := .at _) rfl gG rfl ?_)
 refine sO rfl rfl (oIA (z := 9) (i := 0) rfl rfl rfl rfl (by omega) ?_)
 refine sO rfl rfl (oW (at' (.ptr (some (_, _ + 3)))) rfl rfl ?_)
 refine sO rfl rfl (oLoad (x := .at _) rfl gG rfl ?_)
 refine sO rfl rfl (oIA (z := 17) (i := 0) rfl rfl rfl rfl (by omega) ?_)
 refine sO rfl rfl (oW (at' (.ptr (some (_, _ + 15)))) rfl rfl ?_)
 refine sO rfl rfl (oLoad (x := .at _) rfl gG rfl ?_)
 refine sV rfl rfl rfl ?_
 refine sO rfl rfl (oNE rfl (fun h46 => absurd rfl h46) (fun h46 => ?_))
 refine sV rfl rfl rfl ?_
 show TrP 113 _ _ _ _
 refine tH [(0, _), (1, _), (2, _), (6, _), (7, _), (8, _), (9, _), (10, _), (47, _)] ?_
 refine tF rfl ?_
 refine Tri.skip ?_
 show TrP 113 _ _ _ _
 refine tH [(0, _), (1, _), (2, _), (6, _), (7, _), (8, _), (9, _), (10, _), (47, _)] ?_
 refine Tri.seq ?_
 refine tR ?_
 refine sO rfl rfl (oW (at' (.ptr (some (_, 1)))) rfl rfl ?_)
 refine sO rfl rfl (oLoad (x := .at _) rfl gG rfl ?_)
 refine sO rfl rfl (oIA (z := 9) (i := 0) rfl rfl rfl rfl (by omega) ?_)
 refine sO rfl rfl (oW (at' (.ptr (some (_, _ + 3)))) rfl rfl ?_)
 refine sO rfl rfl (oLoad (x := .at _) rfl gG rfl ?_)
 refine sO rfl rfl (oIA (z := 17) (i := 0) rfl rfl rfl rfl (by omega) ?_)
 refine sO rfl rfl (oW (at' (.ptr (some (_, _ + 15)))) rfl rfl ?_)
 refine sO rfl rfl (oLoad (x := .at _) rfl gG rfl ?_)
 refine sO rfl rfl (oIA (z := 17) (i := 0) rfl rfl rfl rfl (by omega) ?_)
 refine sO rfl rfl (oW (at' (.ptr (some (_, _ + 15)))) rfl rfl ?_)
 refine sO rfl rfl (oLoad (x := .at _) rfl gG rfl ?_)
 refine sV rfl rfl rfl ?_
 refine sO rfl rfl (oIA (z := 17) (i := 0) rfl rfl rfl rfl (by omega) ?_)
 refine sO rfl rfl (oW (at' (.ptr (some (_, _ + 3)))) rfl rfl ?_)
 refine sO rfl rfl (oStore (n := 1) (cs' := tpC ((pk n1 1000001 : Nat) : Int)) rfl rfl rfl gG rfl (Nat.le_of_ble_eq_true rfl) rfl rfl ?_)
 show TrP 113 _ _ _ _
 refine tH [(0, _), (1, _), (2, _), (6, _), (7, _), (8, _), (9, _), (10, _), (47, _)] ?_
 refine Tri.seq ?_
 refine tR ?_
 refine sO rfl rfl (oLoad (x := .agg [_, _]) rfl gG rfl ?_)
 iterate 2 refine sV rfl rfl rfl ?_
 refine sO rfl rfl (oBS2 rfl rfl rfl rfl rfl ?_)
 refine sO rfl rfl (oC rfl (fnOk_of Try.func14 (by decide) rfl) (RunO (tpP (pk n1 1000001)) _ [102] [(((pk n0 9) : Nat) : Int), (((pk n2 12) : Nat) : Int)] (some (_, 0)) _ _ (pf_set hap _ (by repeat (first | exact Kp.refl | refine Kp.push ?_ | refine Kp.set ?_ lL (by first | (left; simp; done) | (right; first | omega | (simp only [Heap.n_push, Heap.n_set]; omega))))) gG) (tp_low _) (row2n gG) o1 hO1) ?_)
 rintro u G3 ⟨r1, rfl, hr1, hrid1, hol1, hk3⟩
 refine sO rfl rfl (oAlloc (cs := [.int .i64 0, .int .i64 0, .slice none 0, .int .i64 0]) rfl rfl ?_)
 refine sO rfl rfl (oStore (n := 4) (cs' := [_, _, _, _]) rfl rfl rfl gG rfl (Nat.le_of_ble_eq_true rfl) rfl rfl ?_)
 show TrP 113 _ _ _ _
 refine tH [(0, _), (1, _), (2, _), (6, _), (7, _), (8, _), (9, _), (10, _), (12, _), (47, _)] ?_
 refine Tri.seq ?_
 refine Tri.seq ?_
 refine tR ?_
 iterate 2 refine sV rfl rfl rfl ?_
 refine sO rfl rfl (oP rfl (fun h69 => ?_) (fun h69 => ?_))
 ·
  show TrP 113 _ _ _ _
  refine tH [(0, _), (1, _), (2, _), (6, _), (7, _), (8, _), (9, _), (10, _), (12, _), (47, _), (69, _)] ?_
  refine tT rfl ?_
  refine Tri.seq ?_
  refine tR ?_
  refine sO rfl rfl (oW (at' (.ptr (some (_, 0)))) rfl rfl ?_)
  refine sO rfl rfl (oLoad (x := .at _) rfl gG rfl ?_)
  refine sO rfl rfl (oE rfl (fun h72 => ?_) (fun h72 => absurd (hA (by omega)).1 h72))
  refine sV rfl rfl rfl ?_
  refine sO rfl rfl (oW (at' (.ptr (some (_, 1)))) rfl rfl ?_)
  refine sO rfl rfl (oLoad (x := .at _) rfl gG rfl ?_)
  refine sV rfl rfl rfl ?_
  refine sO rfl rfl (oAdd (n := 16) (m := pk n1 1000001) rfl (by omega) ?_)
  refine sO rfl rfl (oE rfl (fun h78 => ?_) (fun h78 => absurd (hA (by omega)).2.1 h78))
  iterate 2 refine sV rfl rfl rfl ?_
  refine sO rfl rfl (oW (at' (.ptr (some (_, 2)))) rfl rfl ?_)
  refine sO rfl rfl (oLoad (x := .at _) rfl gG rfl ?_)
  iterate 2 refine sV rfl rfl rfl ?_
  refine sO rfl rfl (oE rfl (fun h85 => ?_) (fun h85 => absurd (by rw [(hA (by omega)).2.2.1]) h85))
  iterate 2 refine sV rfl rfl rfl ?_
  refine sO rfl rfl (oW (at' (.ptr (some (_, 3)))) rfl rfl ?_)
  refine sO rfl rfl (oLoad (x := .at _) rfl gG rfl ?_)
  refine sO rfl rfl (oE rfl (fun h90 => ?_) (fun h90 => absurd (hA (by omega)).2.2.2 h90))
  iterate 2 refine sV rfl rfl rfl ?_
  refine sO rfl rfl (oF rfl (fnOk_of Try.func3 (by decide) rfl) (iexamples_ok _) ?_)
  iterate 2 refine sV rfl rfl rfl ?_
  show TrP 113 _ _ _ _
  refine tH [(0, _), (1, _), (2, _), (6, _), (7, _), (8, _), (9, _), (10, _), (12, _), (47, _), (69, _)] ?_
  refine Tri.ret ?_
  refine ⟨trivial, _, rfl, ?_⟩
  exact ⟨rfl, trivial⟩
 ·
  show TrP 113 _ _ _ _
  refine tH [(0, _), (1, _), (2, _), (6, _), (7, _), (8, _), (9, _), (10, _), (12, _), (47, _), (69, _)] ?_
  refine tF rfl ?_
  refine Tri.skip ?_
  show TrP 113 _ _ _ _
  refine tH [(0, _), (1, _), (2, _), (6, _), (7, _), (8, _), (9, _), (10, _), (12, _), (47, _), (69, _)] ?_
  refine Tri.seq ?_
  refine tR ?_
  refine sO rfl rfl (oW (at' (.ptr (some (_, 0)))) rfl rfl ?_)
  refine sO rfl rfl (oLoad (x := .at _) rfl gG rfl ?_)
  refine sO rfl rfl (oE rfl (fun h97 => ?_) (fun h97 => absurd (hB (by omega)).1 h97))
  refine sV rfl rfl rfl ?_
  refine sO rfl rfl (oW (at' (.ptr (some (_, 2)))) rfl rfl ?_)
  refine sO rfl rfl (oLoad (x := .at _) rfl gG rfl ?_)
  iterate 2 refine sV rfl rfl rfl ?_
  refine sO rfl rfl (oE rfl (fun h103 => ?_) (fun h103 => absurd (by rw [(hB (by omega)).2.1]) h103))
  iterate 2 refine sV rfl rfl rfl ?_
  refine sO rfl rfl (oW (at' (.ptr (some (_, 3)))) rfl rfl ?_)
  refine sO rfl rfl (oLoad (x := .at _) rfl gG rfl ?_)
  refine sO rfl rfl (oE rfl (fun h108 => ?_) (fun h108 => absurd (hB (by omega)).2.2 h108))
  iterate 2 refine sV rfl rfl rfl ?_
  refine sO rfl rfl (oF rfl (fnOk_of Try.func3 (by decide) rfl) (iexamples_ok _) ?_)
  iterate 2 refine sV rfl rfl rfl ?_
  show TrP 113 _ _ _ _
  refine tH [(0, _), (1, _), (2, _), (6, _), (7, _), (8, _), (9, _), (10, _), (12, _), (47, _), (69, _)] ?_
  refine Tri.ret ?_
  refine ⟨trivial, _, rfl, ?_⟩
  exact ⟨rfl, trivial⟩
end Go.Proofs.Ytnhobbjbgljpnaa
