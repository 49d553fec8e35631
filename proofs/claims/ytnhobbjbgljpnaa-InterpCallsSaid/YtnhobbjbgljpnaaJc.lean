/-
  THE WALK of fullinglaw6.InterpCalls (printed by wip/tools/walk.py from wip/specs/intICalls.py). Written in this session.
-/
import Derived.Test.YtnhobbjbgljpnaaIk
import Derived.Test.YtnhobbjbgljpnaaMc
namespace Go.Proofs.Ytnhobbjbgljpnaa
open Go.Ea
set_option maxRecDepth 100000
set_option linter.unusedVariables false
set_option linter.unusedSimpArgs false
theorem row1o {H : Heap} {id : Nat} {T : TypeId} {k : Nat} {a : Int} (h : H.get id = some (.cells T k [.int .i64 a])) : RowR H numC 1 [a] (some (id, 0)) := ⟨fun e => (by cases e), fun i o e => .inr (by cases e; exact ⟨T, k, _, h, by simp, rfl⟩)⟩

set_option maxHeartbeats 4000000 in
theorem calls_ok (n0 n1 n2 : Int) (H : Heap) : Sim Try.prog 8 [at' (.int .i64 n0), at' (.int .i64 n1), at' (.int .i64 n2)] H (fun u G => u = at' (.bool true) ∧ True) := by
 have hn := pk_lt n0 20 (by omega)
 have hf := pk_lt n1 24 (by omega)
 obtain ⟨o1, hO1, hout, hA, hB⟩ := calls_law (pk n0 20) (pk n1 24) n2 hn hf
 have hlen : o1.out.length = min (pk n0 20) (pk n1 24) + 1 := by rw [hout]; simp
 refine Sim.of_tri Try.func8 rfl ?_
 show TrP 84 _ _ _ _
 refine Tri.seq ?_
 refine tR ?_
 refine sV rfl rfl rfl ?_
 show TrP 84 _ _ _ _
 refine tH [(0, _), (1, _), (2, _), (6, _)] ?_
 refine Tri.seq ?_
 refine tR ?_
 refine sV rfl rfl rfl ?_
 refine sO rfl rfl (oF rfl (fnOk_of Try.func18 (by decide) rfl) (Pick_ok _ 20 _ (by omega) (by omega)) ?_)
 refine sV rfl rfl rfl ?_
 refine sO rfl rfl (oF rfl (fnOk_of Try.func18 (by decide) rfl) (Pick_ok _ 24 _ (by omega) (by omega)) ?_)
 iterate 2 refine sV rfl rfl rfl ?_
 show TrP 84 _ _ _ _
 refine tH [(0, _), (1, _), (2, _), (6, _), (7, _), (8, _)] ?_
 refine Tri.seq ?_
 refine tR ?_
 refine sO rfl rfl (oC rfl (fnOk_of Try.func12 (by decide) rfl) (pe_ok _) ?_)
 rintro u G2 ⟨cs2, rfl, hL2, hk2⟩
 have hLP2 := hL2
 obtain ⟨qa2, qf2, rfl, _, _⟩ := hLP2
 iterate 3 refine sV rfl rfl rfl ?_
 refine sO rfl rfl (oAlloc (cs := [.slice none 0, .slice none 0]) rfl rfl ?_)
 refine sO rfl rfl (oAlloc (cs := [.int .i64 0, .int .i64 0]) rfl rfl ?_)
 refine sO rfl rfl (oStore (n := 2) (cs' := [_, _]) rfl rfl rfl gG rfl (Nat.le_of_ble_eq_true rfl) rfl rfl ?_)
 refine sO rfl rfl (oStore (n := 2) (cs' := [_, _]) rfl rfl rfl gG rfl (Nat.le_of_ble_eq_true rfl) rfl rfl ?_)
 show TrP 84 _ _ _ _
 refine tH [(0, _), (1, _), (2, _), (6, _), (7, _), (8, _), (9, _)] ?_
 refine Tri.seq ?_
 refine tR ?_
 refine sO rfl rfl (oLoad (x := .agg [_, _]) rfl gG rfl ?_)
 iterate 2 refine sV rfl rfl rfl ?_
 refine sO rfl rfl (oBS2 rfl rfl rfl rfl rfl ?_)
 refine sV rfl rfl rfl ?_
 refine sO rfl rfl (oC rfl (fnOk_of Try.func14 (by decide) rfl) (RunO peP _ [102] [((pk n0 20 : Nat) : Int), n2] (some (_, 0)) _ _ (hL2.kp kZ) pe_low (row2n gG) o1 hO1) ?_)
 rintro u G3 ⟨r1, rfl, hr1, hrid1, hol1, hk3⟩
 refine sO rfl rfl (oAlloc (cs := [.int .i64 0, .int .i64 0, .slice none 0, .int .i64 0]) rfl rfl ?_)
 refine sO rfl rfl (oStore (n := 4) (cs' := [_, _, _, _]) rfl rfl rfl gG rfl (Nat.le_of_ble_eq_true rfl) rfl rfl ?_)
 show TrP 84 _ _ _ _
 refine tH [(0, _), (1, _), (2, _), (6, _), (7, _), (8, _), (9, _), (11, _)] ?_
 refine Tri.seq ?_
 refine Tri.seq ?_
 refine tR ?_
 refine sO rfl rfl (oW (at' (.ptr (some (_, 2)))) rfl rfl ?_)
 refine sO rfl rfl (oLoad (x := .at _) rfl gG rfl ?_)
 iterate 3 refine sV rfl rfl rfl ?_
 refine sO rfl rfl (oI ((min (pk n0 20) (pk n1 24) : Nat) : Int) rfl (by show (if (((pk n1 24) : Nat) : Int) < (((pk n0 20) : Nat) : Int) then (((pk n1 24) : Nat) : Int) else (((pk n0 20) : Nat) : Int)) = _; split <;> omega) ?_)
 refine sO rfl rfl (oAdd (m := 1) rfl (by omega) ?_)
 refine sO rfl rfl (oNE rfl (fun h34 => absurd (by rw [hlen]) h34) (fun h34 => ?_))
 refine sV rfl rfl rfl ?_
 refine sO rfl rfl (oW (at' (.ptr (some (_, 0)))) rfl rfl ?_)
 refine sO rfl rfl (oLoad (x := .at _) rfl gG rfl ?_)
 refine sO rfl rfl (oE rfl (fun h38 => ?_) (fun h38 => ?_))
 ·
  iterate 2 refine sV rfl rfl rfl ?_
  refine sO rfl rfl (oP rfl (fun h41 => ?_) (fun h41 => absurd h38 (by have := hB (by omega); omega)))
  iterate 3 refine sV rfl rfl rfl ?_
  refine sO rfl rfl (oW (at' (.ptr (some (_, 0)))) rfl rfl ?_)
  refine sO rfl rfl (oLoad (x := .at _) rfl gG rfl ?_)
  refine sO rfl rfl (oNE rfl (fun h47 => absurd h38 h47) (fun h47 => ?_))
  refine sV rfl rfl rfl ?_
  iterate 3 refine sN rfl rfl ?_
  iterate 2 refine sV rfl rfl rfl ?_
  show TrP 84 _ _ _ _
  refine tH [(0, _), (1, _), (2, _), (6, _), (7, _), (8, _), (9, _), (11, _), (53, _)] ?_
  refine tF rfl ?_
  refine Tri.skip ?_
  show TrP 84 _ _ _ _
  refine tH [(0, _), (1, _), (2, _), (6, _), (7, _), (8, _), (9, _), (11, _), (53, _)] ?_
  refine Tri.seq ?_
  refine Tri.seq ?_
  refine tR ?_
  refine sO rfl rfl (oW (at' (.ptr (some (_, 2)))) rfl rfl ?_)
  refine sO rfl rfl (oLoad (x := .at _) rfl gG rfl ?_)
  iterate 2 refine sV rfl rfl rfl ?_
  show TrP 84 _ _ _ _
  refine tH [(0, _), (1, _), (2, _), (6, _), (7, _), (8, _), (9, _), (11, _), (53, _), (56, _), (57, _)] ?_
  refine Tri.block ?_
  refine Tri.loop (fun k' lk1 H1 => ∃ (j : Nat), k' = o1.out.length - j ∧ j ≤ o1.out.length ∧ H1.get G3.n = some (.cells 34 1 [.int .i64 o1.kind, .int .i64 o1.code, .slice r1 o1.out.length, .int .i64 o1.value]) ∧ RowR H1 numC 1 o1.out r1 ∧ Has lk1 [(2, at' (.int .i64 n2)), (7, at' (.int .i64 ((pk n0 20 : Nat) : Int))), (11, at' (.ptr (some (G3.n, 0)))), (56, at' (.int .i64 o1.out.length)), (57, at' (.int .i64 j))]) (o1.out.length) (⟨0, rfl, by omega, gG, hr1.kp kZ, ⟨rfl, rfl, rfl, rfl, rfl, trivial⟩⟩) ?_
  rintro k' lk1 H1 ⟨j, hkj, hj, hcx1, hr1j, hh⟩
  refine Tri.has hh ?_
  refine Tri.seq ?_
  refine tR ?_
  refine sO rfl rfl (oP rfl (fun h58 => ?_) (fun h58 => ?_))
  ·
   show TrP 84 _ _ _ _
   refine tH [(2, _), (7, _), (11, _), (56, _), (57, _), (58, _)] ?_
   refine Tri.seq ?_
   refine tT rfl ?_
   refine Tri.skip ?_
   show TrP 84 _ _ _ _
   refine tH [(2, _), (7, _), (11, _), (56, _), (57, _), (58, _)] ?_
   refine Tri.seq ?_
   refine Tri.block ?_
   refine Tri.seq ?_
   refine tR ?_
   iterate 2 refine sV rfl rfl rfl ?_
   show TrP 84 _ _ _ _
   refine tH [(2, _), (7, _), (11, _), (12, _), (56, _), (57, _), (58, _)] ?_
   refine Tri.seq ?_
   refine tR ?_
   refine sO rfl rfl (oW (at' (.ptr (some (_, 2)))) rfl rfl ?_)
   refine sO rfl rfl (oLoad (x := .at _) rfl gG rfl ?_)
   refine sV rfl rfl rfl ?_
   have he1 : o1.out[j]? = some ((((pk n0 20) - j : Nat)) : Int) := by
     rw [hout, List.getElem?_map, List.getElem?_range (by omega)]; rfl
   obtain ⟨id1, p1', T1, k1, cc1, hq1, hg1, hle1, hr1'⟩ := hr1j.at (fun _ => rfl) he1
   refine sO rfl rfl (oIA (z := 1) (i := j) (n := o1.out.length) (by rw [← hq1]; rfl) rfl rfl rfl (by omega) ?_)
   refine sO rfl rfl (oLoad (x := .at (.int .i64 (((pk n0 20) - j : Nat) : Int))) rfl gG (part_one hr1' rfl rfl rfl) ?_)
   iterate 2 refine sV rfl rfl rfl ?_
   refine sO rfl rfl (oSub rfl (by omega) (by omega) ?_)
   refine sO rfl rfl (oNE rfl (fun h68 => absurd rfl h68) (fun h68 => ?_))
   show TrP 84 _ _ _ _
   refine tH [(2, _), (7, _), (11, _), (12, _), (56, _), (57, _), (58, _), (68, _)] ?_
   refine tF rfl ?_
   refine Tri.skip ?_
   show TrP 84 _ _ _ _
   refine tH [(2, _), (7, _), (11, _), (12, _), (56, _), (57, _), (58, _), (68, _)] ?_
   refine tR ?_
   refine sO rfl rfl (oAdd (m := 1) rfl (by omega) ?_)
   refine sV rfl rfl rfl ?_
   exact ⟨o1.out.length - (j + 1), by omega, j + 1, rfl, by omega, gG, hr1j.kp kZ, ⟨rfl, rfl, rfl, rfl, rfl, trivial⟩⟩
  ·
   show TrP 84 _ _ _ _
   refine tH [(2, _), (7, _), (11, _), (56, _), (57, _), (58, _)] ?_
   refine Tri.seq ?_
   refine tF rfl ?_
   refine Tri.exit ?_
   show TrP 84 _ _ _ _
   refine tH [(2, _), (7, _), (11, _), (56, _), (57, _), (58, _)] ?_
   refine Tri.seq ?_
   refine tR ?_
   refine sO rfl rfl (oW (at' (.ptr (some (_, 0)))) rfl rfl ?_)
   refine sO rfl rfl (oLoad (x := .at _) rfl gG rfl ?_)
   refine sO rfl rfl (oNE rfl (fun h72 => ?_) (fun h72 => ?_))
   ·
    refine sV rfl rfl rfl ?_
    iterate 6 refine sN rfl rfl ?_
    iterate 2 refine sV rfl rfl rfl ?_
    refine sO rfl rfl (oF rfl (fnOk_of Try.func3 (by decide) rfl) (iexamples_ok _) ?_)
    iterate 2 refine sV rfl rfl rfl ?_
    show TrP 84 _ _ _ _
    refine tH [(2, _), (6, _), (7, _), (11, _), (56, _), (57, _), (58, _)] ?_
    refine Tri.ret ?_
    refine ⟨trivial, _, rfl, ?_⟩
    exact ⟨rfl, trivial⟩
   ·
    refine sV rfl rfl rfl ?_
    refine sO rfl rfl (oW (at' (.ptr (some (_, 3)))) rfl rfl ?_)
    refine sO rfl rfl (oLoad (x := .at _) rfl gG rfl ?_)
    iterate 2 refine sV rfl rfl rfl ?_
    refine sO rfl rfl (oW (at' (.int .i64 (wrapA .i64 (((pk n0 20 : Nat) : Int) * n2)))) rfl rfl ?_)
    refine sO rfl rfl (oE rfl (fun h79 => ?_) (fun h79 => absurd (by
  by_cases q : pk n0 20 ≤ pk n1 24
  · exact (hA q).2
  · have := hB q; omega) h79))
    iterate 2 refine sV rfl rfl rfl ?_
    refine sO rfl rfl (oF rfl (fnOk_of Try.func3 (by decide) rfl) (iexamples_ok _) ?_)
    iterate 2 refine sV rfl rfl rfl ?_
    show TrP 84 _ _ _ _
    refine tH [(2, _), (6, _), (7, _), (11, _), (56, _), (57, _), (58, _)] ?_
    refine Tri.ret ?_
    refine ⟨trivial, _, rfl, ?_⟩
    exact ⟨rfl, trivial⟩
 ·
  iterate 2 refine sV rfl rfl rfl ?_
  refine sO rfl rfl (oP rfl (fun h41 => absurd (hA (by omega)).1 h38) (fun h41 => ?_))
  iterate 3 refine sV rfl rfl rfl ?_
  refine sO rfl rfl (oW (at' (.ptr (some (_, 0)))) rfl rfl ?_)
  refine sO rfl rfl (oLoad (x := .at _) rfl gG rfl ?_)
  refine sO rfl rfl (oNE rfl (fun h47 => ?_) (fun h47 => absurd h47 h38))
  refine sV rfl rfl rfl ?_
  refine sO rfl rfl (oW (at' (.ptr (some (_, 0)))) rfl rfl ?_)
  refine sO rfl rfl (oLoad (x := .at _) rfl gG rfl ?_)
  refine sO rfl rfl (oNE rfl (fun h51 => absurd (hB (by omega)) h51) (fun h51 => ?_))
  iterate 2 refine sV rfl rfl rfl ?_
  show TrP 84 _ _ _ _
  refine tH [(0, _), (1, _), (2, _), (6, _), (7, _), (8, _), (9, _), (11, _), (53, _)] ?_
  refine tF rfl ?_
  refine Tri.skip ?_
  show TrP 84 _ _ _ _
  refine tH [(0, _), (1, _), (2, _), (6, _), (7, _), (8, _), (9, _), (11, _), (53, _)] ?_
  refine Tri.seq ?_
  refine Tri.seq ?_
  refine tR ?_
  refine sO rfl rfl (oW (at' (.ptr (some (_, 2)))) rfl rfl ?_)
  refine sO rfl rfl (oLoad (x := .at _) rfl gG rfl ?_)
  iterate 2 refine sV rfl rfl rfl ?_
  show TrP 84 _ _ _ _
  refine tH [(0, _), (1, _), (2, _), (6, _), (7, _), (8, _), (9, _), (11, _), (53, _), (56, _), (57, _)] ?_
  refine Tri.block ?_
  refine Tri.loop (fun k' lk1 H1 => ∃ (j : Nat), k' = o1.out.length - j ∧ j ≤ o1.out.length ∧ H1.get G3.n = some (.cells 34 1 [.int .i64 o1.kind, .int .i64 o1.code, .slice r1 o1.out.length, .int .i64 o1.value]) ∧ RowR H1 numC 1 o1.out r1 ∧ Has lk1 [(2, at' (.int .i64 n2)), (7, at' (.int .i64 ((pk n0 20 : Nat) : Int))), (11, at' (.ptr (some (G3.n, 0)))), (56, at' (.int .i64 o1.out.length)), (57, at' (.int .i64 j))]) (o1.out.length) (⟨0, rfl, by omega, gG, hr1.kp kZ, ⟨rfl, rfl, rfl, rfl, rfl, trivial⟩⟩) ?_
  rintro k' lk1 H1 ⟨j, hkj, hj, hcx1, hr1j, hh⟩
  refine Tri.has hh ?_
  refine Tri.seq ?_
  refine tR ?_
  refine sO rfl rfl (oP rfl (fun h58 => ?_) (fun h58 => ?_))
  ·
   show TrP 84 _ _ _ _
   refine tH [(2, _), (7, _), (11, _), (56, _), (57, _), (58, _)] ?_
   refine Tri.seq ?_
   refine tT rfl ?_
   refine Tri.skip ?_
   show TrP 84 _ _ _ _
   refine tH [(2, _), (7, _), (11, _), (56, _), (57, _), (58, _)] ?_
   refine Tri.seq ?_
   refine Tri.block ?_
   refine Tri.seq ?_
   refine tR ?_
   iterate 2 refine sV rfl rfl rfl ?_
   show TrP 84 _ _ _ _
   refine tH [(2, _), (7, _), (11, _), (12, _), (56, _), (57, _), (58, _)] ?_
   refine Tri.seq ?_
   refine tR ?_
   refine sO rfl rfl (oW (at' (.ptr (some (_, 2)))) rfl rfl ?_)
   refine sO rfl rfl (oLoad (x := .at _) rfl gG rfl ?_)
   refine sV rfl rfl rfl ?_
   have he1 : o1.out[j]? = some ((((pk n0 20) - j : Nat)) : Int) := by
     rw [hout, List.getElem?_map, List.getElem?_range (by omega)]; rfl
   obtain ⟨id1, p1', T1, k1, cc1, hq1, hg1, hle1, hr1'⟩ := hr1j.at (fun _ => rfl) he1
   refine sO rfl rfl (oIA (z := 1) (i := j) (n := o1.out.length) (by rw [← hq1]; rfl) rfl rfl rfl (by omega) ?_)
   refine sO rfl rfl (oLoad (x := .at (.int .i64 (((pk n0 20) - j : Nat) : Int))) rfl gG (part_one hr1' rfl rfl rfl) ?_)
   iterate 2 refine sV rfl rfl rfl ?_
   refine sO rfl rfl (oSub rfl (by omega) (by omega) ?_)
   refine sO rfl rfl (oNE rfl (fun h68 => absurd rfl h68) (fun h68 => ?_))
   show TrP 84 _ _ _ _
   refine tH [(2, _), (7, _), (11, _), (12, _), (56, _), (57, _), (58, _), (68, _)] ?_
   refine tF rfl ?_
   refine Tri.skip ?_
   show TrP 84 _ _ _ _
   refine tH [(2, _), (7, _), (11, _), (12, _), (56, _), (57, _), (58, _), (68, _)] ?_
   refine tR ?_
   refine sO rfl rfl (oAdd (m := 1) rfl (by omega) ?_)
   refine sV rfl rfl rfl ?_
   exact ⟨o1.out.length - (j + 1), by omega, j + 1, rfl, by omega, gG, hr1j.kp kZ, ⟨rfl, rfl, rfl, rfl, rfl, trivial⟩⟩
  ·
   show TrP 84 _ _ _ _
   refine tH [(2, _), (7, _), (11, _), (56, _), (57, _), (58, _)] ?_
   refine Tri.seq ?_
   refine tF rfl ?_
   refine Tri.exit ?_
   show TrP 84 _ _ _ _
   refine tH [(2, _), (7, _), (11, _), (56, _), (57, _), (58, _)] ?_
   refine Tri.seq ?_
   refine tR ?_
   refine sO rfl rfl (oW (at' (.ptr (some (_, 0)))) rfl rfl ?_)
   refine sO rfl rfl (oLoad (x := .at _) rfl gG rfl ?_)
   refine sO rfl rfl (oNE rfl (fun h72 => ?_) (fun h72 => ?_))
   ·
    refine sV rfl rfl rfl ?_
    iterate 6 refine sN rfl rfl ?_
    iterate 2 refine sV rfl rfl rfl ?_
    refine sO rfl rfl (oF rfl (fnOk_of Try.func3 (by decide) rfl) (iexamples_ok _) ?_)
    iterate 2 refine sV rfl rfl rfl ?_
    show TrP 84 _ _ _ _
    refine tH [(2, _), (6, _), (7, _), (11, _), (56, _), (57, _), (58, _)] ?_
    refine Tri.ret ?_
    refine ⟨trivial, _, rfl, ?_⟩
    exact ⟨rfl, trivial⟩
   ·
    refine sV rfl rfl rfl ?_
    refine sO rfl rfl (oW (at' (.ptr (some (_, 3)))) rfl rfl ?_)
    refine sO rfl rfl (oLoad (x := .at _) rfl gG rfl ?_)
    iterate 2 refine sV rfl rfl rfl ?_
    refine sO rfl rfl (oW (at' (.int .i64 (wrapA .i64 (((pk n0 20 : Nat) : Int) * n2)))) rfl rfl ?_)
    refine sO rfl rfl (oE rfl (fun h79 => ?_) (fun h79 => absurd (by
  by_cases q : pk n0 20 ≤ pk n1 24
  · exact (hA q).2
  · have := hB q; omega) h79))
    iterate 2 refine sV rfl rfl rfl ?_
    refine sO rfl rfl (oF rfl (fnOk_of Try.func3 (by decide) rfl) (iexamples_ok _) ?_)
    iterate 2 refine sV rfl rfl rfl ?_
    show TrP 84 _ _ _ _
    refine tH [(2, _), (6, _), (7, _), (11, _), (56, _), (57, _), (58, _)] ?_
    refine Tri.ret ?_
    refine ⟨trivial, _, rfl, ?_⟩
    exact ⟨rfl, trivial⟩
end Go.Proofs.Ytnhobbjbgljpnaa
