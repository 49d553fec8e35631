/-
  THE WALK of fullinglaw6.InterpTicks (printed by wip/tools/walk.py from wip/specs/intITicks.py). Written in this session.
-/
import Derived.Test.YtnhobbjbgljpnaaIk
import Derived.Test.YtnhobbjbgljpnaaMb
namespace Go.Proofs.Ytnhobbjbgljpnaa
open Go.Ea
set_option maxRecDepth 100000
set_option linter.unusedVariables false
set_option linter.unusedSimpArgs false
theorem row1o {H : Heap} {id : Nat} {T : TypeId} {k : Nat} {a : Int} (h : H.get id = some (.cells T k [.int .i64 a])) : RowR H numC 1 [a] (some (id, 0)) := ⟨fun e => (by cases e), fun i o e => .inr (by cases e; exact ⟨T, k, _, h, by simp, rfl⟩)⟩

set_option maxHeartbeats 4000000 in
theorem ticks_ok (n0 n1 n2 : Int) (H : Heap) : Sim Try.prog 5 [at' (.int .i64 n0), at' (.int .i64 n1), at' (.int .i64 n2)] H (fun u G => u = at' (.bool true) ∧ True) := by
 have hn := pk_lt n0 12 (by omega)
 have hf := pk_lt n1 16 (by omega)
 have hk := pk_lt n2 5 (by omega)
 obtain ⟨o1, hO1, hout, hA, hB⟩ := tick_law (pk n0 12) (pk n1 16) (pk n2 5) hn hf hk
 have hlen : o1.out.length = min (pk n0 12) (pk n1 16) := by rw [hout]; simp
 refine Sim.of_tri Try.func5 rfl ?_
 show TrP 87 _ _ _ _
 refine Tri.seq ?_
 refine tR ?_
 refine sV rfl rfl rfl ?_
 show TrP 87 _ _ _ _
 refine tH [(0, _), (1, _), (2, _), (6, _)] ?_
 refine Tri.seq ?_
 refine tR ?_
 refine sV rfl rfl rfl ?_
 refine sO rfl rfl (oF rfl (fnOk_of Try.func18 (by decide) rfl) (Pick_ok _ 12 _ (by omega) (by omega)) ?_)
 refine sV rfl rfl rfl ?_
 show TrP 87 _ _ _ _
 refine tH [(0, _), (1, _), (2, _), (6, _)] ?_
 refine Tri.seq ?_
 refine tR ?_
 refine sV rfl rfl rfl ?_
 refine sO rfl rfl (oF rfl (fnOk_of Try.func18 (by decide) rfl) (Pick_ok _ 16 _ (by omega) (by omega)) ?_)
 refine sV rfl rfl rfl ?_
 show TrP 87 _ _ _ _
 refine tH [(0, _), (1, _), (2, _), (6, _), (7, _)] ?_
 refine Tri.seq ?_
 refine tR ?_
 refine sV rfl rfl rfl ?_
 refine sO rfl rfl (oF rfl (fnOk_of Try.func18 (by decide) rfl) (Pick_ok _ 5 _ (by omega) (by omega)) ?_)
 refine sV rfl rfl rfl ?_
 show TrP 87 _ _ _ _
 refine tH [(0, _), (1, _), (2, _), (6, _), (7, _), (8, _)] ?_
 refine Tri.seq ?_
 refine tR ?_
 refine sO rfl rfl (oC rfl (fnOk_of Try.func12 (by decide) rfl) (pb_ok _) ?_)
 rintro u G2 ⟨cs2, rfl, hL2, hk2⟩
 have hLP2 := hL2
 obtain ⟨qa2, qf2, rfl, _, _⟩ := hLP2
 iterate 3 refine sV rfl rfl rfl ?_
 refine sO rfl rfl (oAlloc (cs := [.slice none 0, .slice none 0]) rfl rfl ?_)
 refine sO rfl rfl (oAlloc (cs := [.int .i64 0, .int .i64 0]) rfl rfl ?_)
 refine sO rfl rfl (oStore (n := 2) (cs' := [_, _]) rfl rfl rfl gG rfl (Nat.le_of_ble_eq_true rfl) rfl rfl ?_)
 refine sO rfl rfl (oStore (n := 2) (cs' := [_, _]) rfl rfl rfl gG rfl (Nat.le_of_ble_eq_true rfl) rfl rfl ?_)
 show TrP 87 _ _ _ _
 refine tH [(0, _), (1, _), (2, _), (6, _), (7, _), (8, _), (9, _)] ?_
 refine Tri.seq ?_
 refine tR ?_
 refine sO rfl rfl (oLoad (x := .agg [_, _]) rfl gG rfl ?_)
 iterate 2 refine sV rfl rfl rfl ?_
 refine sO rfl rfl (oBS2 rfl rfl rfl rfl rfl ?_)
 refine sV rfl rfl rfl ?_
 refine sO rfl rfl (oC rfl (fnOk_of Try.func14 (by decide) rfl) (RunO pbP _ [102] [((pk n0 12 : Nat) : Int), ((pk n2 5 : Nat) : Int)] (some (_, 0)) _ _ (hL2.kp kZ) pb_low (row2n gG) o1 hO1) ?_)
 rintro u G3 ⟨r1, rfl, hr1, hrid1, hol1, hk3⟩
 refine sO rfl rfl (oAlloc (cs := [.int .i64 0, .int .i64 0, .slice none 0, .int .i64 0]) rfl rfl ?_)
 refine sO rfl rfl (oStore (n := 4) (cs' := [_, _, _, _]) rfl rfl rfl gG rfl (Nat.le_of_ble_eq_true rfl) rfl rfl ?_)
 show TrP 87 _ _ _ _
 refine tH [(0, _), (1, _), (2, _), (6, _), (7, _), (8, _), (9, _), (11, _)] ?_
 refine Tri.seq ?_
 refine Tri.seq ?_
 refine tR ?_
 refine sO rfl rfl (oW (at' (.ptr (some (_, 2)))) rfl rfl ?_)
 refine sO rfl rfl (oLoad (x := .at _) rfl gG rfl ?_)
 iterate 3 refine sV rfl rfl rfl ?_
 refine sO rfl rfl (oI ((min (pk n0 12) (pk n1 16) : Nat) : Int) rfl (by show (if (((pk n1 16) : Nat) : Int) < (((pk n0 12) : Nat) : Int) then (((pk n1 16) : Nat) : Int) else (((pk n0 12) : Nat) : Int)) = _; split <;> omega) ?_)
 refine sO rfl rfl (oNE rfl (fun h35 => absurd (by rw [hlen]) h35) (fun h35 => ?_))
 refine sV rfl rfl rfl ?_
 refine sO rfl rfl (oW (at' (.ptr (some (_, 0)))) rfl rfl ?_)
 refine sO rfl rfl (oLoad (x := .at _) rfl gG rfl ?_)
 refine sO rfl rfl (oE rfl (fun h39 => ?_) (fun h39 => ?_))
 ·
  iterate 2 refine sV rfl rfl rfl ?_
  refine sO rfl rfl (oAdd (m := 1) rfl (by omega) ?_)
  refine sO rfl rfl (oP rfl (fun h43 => ?_) (fun h43 => absurd h39 (by have := hB (by omega); omega)))
  iterate 3 refine sV rfl rfl rfl ?_
  refine sO rfl rfl (oW (at' (.ptr (some (_, 0)))) rfl rfl ?_)
  refine sO rfl rfl (oLoad (x := .at _) rfl gG rfl ?_)
  refine sO rfl rfl (oNE rfl (fun h49 => absurd h39 h49) (fun h49 => ?_))
  refine sV rfl rfl rfl ?_
  iterate 3 refine sN rfl rfl ?_
  iterate 2 refine sV rfl rfl rfl ?_
  show TrP 87 _ _ _ _
  refine tH [(0, _), (1, _), (2, _), (6, _), (7, _), (8, _), (9, _), (11, _), (55, _)] ?_
  refine tF rfl ?_
  refine Tri.skip ?_
  show TrP 87 _ _ _ _
  refine tH [(0, _), (1, _), (2, _), (6, _), (7, _), (8, _), (9, _), (11, _), (55, _)] ?_
  refine Tri.seq ?_
  refine Tri.seq ?_
  refine tR ?_
  refine sO rfl rfl (oW (at' (.ptr (some (_, 2)))) rfl rfl ?_)
  refine sO rfl rfl (oLoad (x := .at _) rfl gG rfl ?_)
  iterate 2 refine sV rfl rfl rfl ?_
  show TrP 87 _ _ _ _
  refine tH [(0, _), (1, _), (2, _), (6, _), (7, _), (8, _), (9, _), (11, _), (55, _), (58, _), (59, _)] ?_
  refine Tri.block ?_
  refine Tri.loop (fun k' lk1 H1 => ∃ (j : Nat), k' = o1.out.length - j ∧ j ≤ o1.out.length ∧ H1.get G3.n = some (.cells 34 1 [.int .i64 o1.kind, .int .i64 o1.code, .slice r1 o1.out.length, .int .i64 o1.value]) ∧ RowR H1 numC 1 o1.out r1 ∧ Has lk1 [(0, at' (.int .i64 ((pk n0 12 : Nat) : Int))), (8, at' (.int .i64 ((pk n2 5 : Nat) : Int))), (11, at' (.ptr (some (G3.n, 0)))), (58, at' (.int .i64 o1.out.length)), (59, at' (.int .i64 j))]) (o1.out.length) (⟨0, rfl, by omega, gG, hr1.kp kZ, ⟨rfl, rfl, rfl, rfl, rfl, trivial⟩⟩) ?_
  rintro k' lk1 H1 ⟨j, hkj, hj, hcx1, hr1j, hh⟩
  refine Tri.has hh ?_
  refine Tri.seq ?_
  refine tR ?_
  refine sO rfl rfl (oP rfl (fun h60 => ?_) (fun h60 => ?_))
  ·
   show TrP 87 _ _ _ _
   refine tH [(0, _), (8, _), (11, _), (58, _), (59, _), (60, _)] ?_
   refine Tri.seq ?_
   refine tT rfl ?_
   refine Tri.skip ?_
   show TrP 87 _ _ _ _
   refine tH [(0, _), (8, _), (11, _), (58, _), (59, _), (60, _)] ?_
   refine Tri.seq ?_
   refine Tri.block ?_
   refine Tri.seq ?_
   refine tR ?_
   iterate 2 refine sV rfl rfl rfl ?_
   show TrP 87 _ _ _ _
   refine tH [(0, _), (8, _), (11, _), (12, _), (58, _), (59, _), (60, _)] ?_
   refine Tri.seq ?_
   refine tR ?_
   refine sO rfl rfl (oW (at' (.ptr (some (_, 2)))) rfl rfl ?_)
   refine sO rfl rfl (oLoad (x := .at _) rfl gG rfl ?_)
   refine sV rfl rfl rfl ?_
   have he1 : o1.out[j]? = some ((((pk n2 5) + j : Nat)) : Int) := by
     rw [hout, List.getElem?_map, List.getElem?_range (by omega)]; rfl
   obtain ⟨id1, p1', T1, k1, cc1, hq1, hg1, hle1, hr1'⟩ := hr1j.at (fun _ => rfl) he1
   refine sO rfl rfl (oIA (z := 1) (i := j) (n := o1.out.length) (by rw [← hq1]; rfl) rfl rfl rfl (by omega) ?_)
   refine sO rfl rfl (oLoad (x := .at (.int .i64 (((pk n2 5) + j : Nat) : Int))) rfl gG (part_one hr1' rfl rfl rfl) ?_)
   iterate 2 refine sV rfl rfl rfl ?_
   refine sO rfl rfl (oAdd rfl (by omega) ?_)
   refine sO rfl rfl (oNE rfl (fun h70 => absurd rfl h70) (fun h70 => ?_))
   show TrP 87 _ _ _ _
   refine tH [(0, _), (8, _), (11, _), (12, _), (58, _), (59, _), (60, _), (70, _)] ?_
   refine tF rfl ?_
   refine Tri.skip ?_
   show TrP 87 _ _ _ _
   refine tH [(0, _), (8, _), (11, _), (12, _), (58, _), (59, _), (60, _), (70, _)] ?_
   refine tR ?_
   refine sO rfl rfl (oAdd (m := 1) rfl (by omega) ?_)
   refine sV rfl rfl rfl ?_
   exact ⟨o1.out.length - (j + 1), by omega, j + 1, rfl, by omega, gG, hr1j.kp kZ, ⟨rfl, rfl, rfl, rfl, rfl, trivial⟩⟩
  ·
   show TrP 87 _ _ _ _
   refine tH [(0, _), (8, _), (11, _), (58, _), (59, _), (60, _)] ?_
   refine Tri.seq ?_
   refine tF rfl ?_
   refine Tri.exit ?_
   show TrP 87 _ _ _ _
   refine tH [(0, _), (8, _), (11, _), (58, _), (59, _), (60, _)] ?_
   refine Tri.seq ?_
   refine tR ?_
   refine sO rfl rfl (oW (at' (.ptr (some (_, 0)))) rfl rfl ?_)
   refine sO rfl rfl (oLoad (x := .at _) rfl gG rfl ?_)
   refine sO rfl rfl (oNE rfl (fun h74 => ?_) (fun h74 => ?_))
   ·
    refine sV rfl rfl rfl ?_
    iterate 7 refine sN rfl rfl ?_
    iterate 2 refine sV rfl rfl rfl ?_
    refine sO rfl rfl (oF rfl (fnOk_of Try.func3 (by decide) rfl) (iexamples_ok _) ?_)
    iterate 2 refine sV rfl rfl rfl ?_
    show TrP 87 _ _ _ _
    refine tH [(0, _), (6, _), (8, _), (11, _), (58, _), (59, _), (60, _)] ?_
    refine Tri.ret ?_
    refine ⟨trivial, _, rfl, ?_⟩
    exact ⟨rfl, trivial⟩
   ·
    refine sV rfl rfl rfl ?_
    refine sO rfl rfl (oW (at' (.ptr (some (_, 3)))) rfl rfl ?_)
    refine sO rfl rfl (oLoad (x := .at _) rfl gG rfl ?_)
    iterate 2 refine sV rfl rfl rfl ?_
    refine sO rfl rfl (oAdd rfl (by omega) ?_)
    refine sO rfl rfl (oArith (x := 2 * (((pk n0 12) + (pk n2 5) : Nat) : Int)) rfl (by omega) (by omega) ?_)
    refine sO rfl rfl (oE rfl (fun h82 => ?_) (fun h82 => absurd (by
  by_cases q : pk n0 12 + 1 ≤ pk n1 16
  · exact (hA q).2
  · have := hB q; omega) h82))
    iterate 2 refine sV rfl rfl rfl ?_
    refine sO rfl rfl (oF rfl (fnOk_of Try.func3 (by decide) rfl) (iexamples_ok _) ?_)
    iterate 2 refine sV rfl rfl rfl ?_
    show TrP 87 _ _ _ _
    refine tH [(0, _), (6, _), (8, _), (11, _), (58, _), (59, _), (60, _)] ?_
    refine Tri.ret ?_
    refine ⟨trivial, _, rfl, ?_⟩
    exact ⟨rfl, trivial⟩
 ·
  iterate 2 refine sV rfl rfl rfl ?_
  refine sO rfl rfl (oAdd (m := 1) rfl (by omega) ?_)
  refine sO rfl rfl (oP rfl (fun h43 => absurd (hA (by omega)).1 h39) (fun h43 => ?_))
  iterate 3 refine sV rfl rfl rfl ?_
  refine sO rfl rfl (oW (at' (.ptr (some (_, 0)))) rfl rfl ?_)
  refine sO rfl rfl (oLoad (x := .at _) rfl gG rfl ?_)
  refine sO rfl rfl (oNE rfl (fun h49 => ?_) (fun h49 => absurd h49 h39))
  refine sV rfl rfl rfl ?_
  refine sO rfl rfl (oW (at' (.ptr (some (_, 0)))) rfl rfl ?_)
  refine sO rfl rfl (oLoad (x := .at _) rfl gG rfl ?_)
  refine sO rfl rfl (oNE rfl (fun h53 => absurd (hB (by omega)) h53) (fun h53 => ?_))
  iterate 2 refine sV rfl rfl rfl ?_
  show TrP 87 _ _ _ _
  refine tH [(0, _), (1, _), (2, _), (6, _), (7, _), (8, _), (9, _), (11, _), (55, _)] ?_
  refine tF rfl ?_
  refine Tri.skip ?_
  show TrP 87 _ _ _ _
  refine tH [(0, _), (1, _), (2, _), (6, _), (7, _), (8, _), (9, _), (11, _), (55, _)] ?_
  refine Tri.seq ?_
  refine Tri.seq ?_
  refine tR ?_
  refine sO rfl rfl (oW (at' (.ptr (some (_, 2)))) rfl rfl ?_)
  refine sO rfl rfl (oLoad (x := .at _) rfl gG rfl ?_)
  iterate 2 refine sV rfl rfl rfl ?_
  show TrP 87 _ _ _ _
  refine tH [(0, _), (1, _), (2, _), (6, _), (7, _), (8, _), (9, _), (11, _), (55, _), (58, _), (59, _)] ?_
  refine Tri.block ?_
  refine Tri.loop (fun k' lk1 H1 => ∃ (j : Nat), k' = o1.out.length - j ∧ j ≤ o1.out.length ∧ H1.get G3.n = some (.cells 34 1 [.int .i64 o1.kind, .int .i64 o1.code, .slice r1 o1.out.length, .int .i64 o1.value]) ∧ RowR H1 numC 1 o1.out r1 ∧ Has lk1 [(0, at' (.int .i64 ((pk n0 12 : Nat) : Int))), (8, at' (.int .i64 ((pk n2 5 : Nat) : Int))), (11, at' (.ptr (some (G3.n, 0)))), (58, at' (.int .i64 o1.out.length)), (59, at' (.int .i64 j))]) (o1.out.length) (⟨0, rfl, by omega, gG, hr1.kp kZ, ⟨rfl, rfl, rfl, rfl, rfl, trivial⟩⟩) ?_
  rintro k' lk1 H1 ⟨j, hkj, hj, hcx1, hr1j, hh⟩
  refine Tri.has hh ?_
  refine Tri.seq ?_
  refine tR ?_
  refine sO rfl rfl (oP rfl (fun h60 => ?_) (fun h60 => ?_))
  ·
   show TrP 87 _ _ _ _
   refine tH [(0, _), (8, _), (11, _), (58, _), (59, _), (60, _)] ?_
   refine Tri.seq ?_
   refine tT rfl ?_
   refine Tri.skip ?_
   show TrP 87 _ _ _ _
   refine tH [(0, _), (8, _), (11, _), (58, _), (59, _), (60, _)] ?_
   refine Tri.seq ?_
   refine Tri.block ?_
   refine Tri.seq ?_
   refine tR ?_
   iterate 2 refine sV rfl rfl rfl ?_
   show TrP 87 _ _ _ _
   refine tH [(0, _), (8, _), (11, _), (12, _), (58, _), (59, _), (60, _)] ?_
   refine Tri.seq ?_
   refine tR ?_
   refine sO rfl rfl (oW (at' (.ptr (some (_, 2)))) rfl rfl ?_)
   refine sO rfl rfl (oLoad (x := .at _) rfl gG rfl ?_)
   refine sV rfl rfl rfl ?_
   have he1 : o1.out[j]? = some ((((pk n2 5) + j : Nat)) : Int) := by
     rw [hout, List.getElem?_map, List.getElem?_range (by omega)]; rfl
   obtain ⟨id1, p1', T1, k1, cc1, hq1, hg1, hle1, hr1'⟩ := hr1j.at (fun _ => rfl) he1
   refine sO rfl rfl (oIA (z := 1) (i := j) (n := o1.out.length) (by rw [← hq1]; rfl) rfl rfl rfl (by omega) ?_)
   refine sO rfl rfl (oLoad (x := .at (.int .i64 (((pk n2 5) + j : Nat) : Int))) rfl gG (part_one hr1' rfl rfl rfl) ?_)
   iterate 2 refine sV rfl rfl rfl ?_
   refine sO rfl rfl (oAdd rfl (by omega) ?_)
   refine sO rfl rfl (oNE rfl (fun h70 => absurd rfl h70) (fun h70 => ?_))
   show TrP 87 _ _ _ _
   refine tH [(0, _), (8, _), (11, _), (12, _), (58, _), (59, _), (60, _), (70, _)] ?_
   refine tF rfl ?_
   refine Tri.skip ?_
   show TrP 87 _ _ _ _
   refine tH [(0, _), (8, _), (11, _), (12, _), (58, _), (59, _), (60, _), (70, _)] ?_
   refine tR ?_
   refine sO rfl rfl (oAdd (m := 1) rfl (by omega) ?_)
   refine sV rfl rfl rfl ?_
   exact ⟨o1.out.length - (j + 1), by omega, j + 1, rfl, by omega, gG, hr1j.kp kZ, ⟨rfl, rfl, rfl, rfl, rfl, trivial⟩⟩
  ·
   show TrP 87 _ _ _ _
   refine tH [(0, _), (8, _), (11, _), (58, _), (59, _), (60, _)] ?_
   refine Tri.seq ?_
   refine tF rfl ?_
   refine Tri.exit ?_
   show TrP 87 _ _ _ _
   refine tH [(0, _), (8, _), (11, _), (58, _), (59, _), (60, _)] ?_
   refine Tri.seq ?_
   refine tR ?_
   refine sO rfl rfl (oW (at' (.ptr (some (_, 0)))) rfl rfl ?_)
   refine sO rfl rfl (oLoad (x := .at _) rfl gG rfl ?_)
   refine sO rfl rfl (oNE rfl (fun h74 => ?_) (fun h74 => ?_))
   ·
    refine sV rfl rfl rfl ?_
    iterate 7 refine sN rfl rfl ?_
    iterate 2 refine sV rfl rfl rfl ?_
    refine sO rfl rfl (oF rfl (fnOk_of Try.func3 (by decide) rfl) (iexamples_ok _) ?_)
    iterate 2 refine sV rfl rfl rfl ?_
    show TrP 87 _ _ _ _
    refine tH [(0, _), (6, _), (8, _), (11, _), (58, _), (59, _), (60, _)] ?_
    refine Tri.ret ?_
    refine ⟨trivial, _, rfl, ?_⟩
    exact ⟨rfl, trivial⟩
   ·
    refine sV rfl rfl rfl ?_
    refine sO rfl rfl (oW (at' (.ptr (some (_, 3)))) rfl rfl ?_)
    refine sO rfl rfl (oLoad (x := .at _) rfl gG rfl ?_)
    iterate 2 refine sV rfl rfl rfl ?_
    refine sO rfl rfl (oAdd rfl (by omega) ?_)
    refine sO rfl rfl (oArith (x := 2 * (((pk n0 12) + (pk n2 5) : Nat) : Int)) rfl (by omega) (by omega) ?_)
    refine sO rfl rfl (oE rfl (fun h82 => ?_) (fun h82 => absurd (by
  by_cases q : pk n0 12 + 1 ≤ pk n1 16
  · exact (hA q).2
  · have := hB q; omega) h82))
    iterate 2 refine sV rfl rfl rfl ?_
    refine sO rfl rfl (oF rfl (fnOk_of Try.func3 (by decide) rfl) (iexamples_ok _) ?_)
    iterate 2 refine sV rfl rfl rfl ?_
    show TrP 87 _ _ _ _
    refine tH [(0, _), (6, _), (8, _), (11, _), (58, _), (59, _), (60, _)] ?_
    refine Tri.ret ?_
    refine ⟨trivial, _, rfl, ?_⟩
    exact ⟨rfl, trivial⟩
end Go.Proofs.Ytnhobbjbgljpnaa
