/-
  THE WALK of fullinglaw6.InterpSorts (printed by wip/tools/walk.py from wip/specs/intISorts.py). Written in this session.
-/
import Derived.Test.YtnhobbjbgljpnaaIr
import Derived.Test.YtnhobbjbgljpnaaMf
namespace Go.Proofs.Ytnhobbjbgljpnaa
open Go.Ea
set_option maxRecDepth 100000
set_option linter.unusedVariables false
set_option linter.unusedSimpArgs false
theorem row1o {H : Heap} {id : Nat} {T : TypeId} {k : Nat} {a : Int} (h : H.get id = some (.cells T k [.int .i64 a])) : RowR H numC 1 [a] (some (id, 0)) := ⟨fun e => (by cases e), fun i o e => .inr (by cases e; exact ⟨T, k, _, h, by simp, rfl⟩)⟩

theorem row3n {H : Heap} {id : Nat} {T : TypeId} {k : Nat} {a b c : Int} (h : H.get id = some (.cells T k [.int .i64 a, .int .i64 b, .int .i64 c])) : RowR H numC 1 [a, b, c] (some (id, 0)) := ⟨fun e => (by cases e), fun i o e => .inr (by cases e; exact ⟨T, k, _, h, by simp, rfl⟩)⟩

set_option maxHeartbeats 4000000 in
theorem sorts_ok (n0 n1 n2 : Int) (H : Heap) : Sim Try.prog 6 [at' (.int .i64 n0), at' (.int .i64 n1), at' (.int .i64 n2)] H (fun u G => u = at' (.bool true) ∧ True) := by
 obtain ⟨x, y, z, hO1, hxy, hyz, hmin, hmax, hxor⟩ := sort_law n0 n1 n2
 refine Sim.of_tri Try.func6 rfl ?_
 show TrP 100 _ _ _ _
 refine Tri.seq ?_
 refine tR ?_
 refine sV rfl rfl rfl ?_
 show TrP 100 _ _ _ _
 refine tH [(0, _), (1, _), (2, _), (6, _)] ?_
 refine Tri.seq ?_
 refine tR ?_
 refine sO rfl rfl (oC rfl (fnOk_of Try.func12 (by decide) rfl) (pc_ok _) ?_)
 rintro u G2 ⟨cs2, rfl, hL2, hk2⟩
 have hLP2 := hL2
 obtain ⟨qa2, qf2, rfl, _, _⟩ := hLP2
 iterate 3 refine sV rfl rfl rfl ?_
 refine sO rfl rfl (oAlloc (cs := [.slice none 0, .slice none 0]) rfl rfl ?_)
 refine sO rfl rfl (oAlloc (cs := [.int .i64 0, .int .i64 0]) rfl rfl ?_)
 refine sO rfl rfl (oStore (n := 2) (cs' := [_, _]) rfl rfl rfl gG rfl (Nat.le_of_ble_eq_true rfl) rfl rfl ?_)
 refine sO rfl rfl (oStore (n := 2) (cs' := [_, _]) rfl rfl rfl gG rfl (Nat.le_of_ble_eq_true rfl) rfl rfl ?_)
 show TrP 100 _ _ _ _
 refine tH [(0, _), (1, _), (2, _), (6, _), (7, _)] ?_
 refine Tri.seq ?_
 refine tR ?_
 refine sO rfl rfl (oLoad (x := .agg [_, _]) rfl gG rfl ?_)
 iterate 3 refine sV rfl rfl rfl ?_
 refine sO rfl rfl (oV (v := at' (.slice (some (_, 0)) 3)) (H' := Heap.push _ (.cells 2 2 [.int .i64 n0, .int .i64 n1, .int .i64 n2])) rfl ?_)
 refine sO rfl rfl (oC rfl (fnOk_of Try.func14 (by decide) rfl) (RunO pcP _ [102] [n0, n1, n2] (some (_, 0)) _ _ (hL2.kp kZ) pc_low (row3n gG) ⟨1, 0, [x, y, z], 0⟩ hO1) ?_)
 rintro u G3 ⟨r1, rfl, hr1, hrid1, hol1, hk3⟩
 obtain ⟨id1, p1, T1, k1, cc1, hq1, hg1, hle1, hx0⟩ := hr1.at (i := 0) (x := x) (fun _ => rfl) rfl
 cases hq1
 have hid1 := Heap.get_lt hg1
 obtain ⟨_, _, _, _, _, hq2, hg2, _, hx1⟩ := hr1.at (i := 1) (x := y) (fun _ => rfl) rfl
 cases hq2
 rw [hg1] at hg2
 cases hg2
 obtain ⟨_, _, _, _, _, hq3, hg3, _, hx2⟩ := hr1.at (i := 2) (x := z) (fun _ => rfl) rfl
 cases hq3
 rw [hg1] at hg3
 cases hg3
 refine sO rfl rfl (oAlloc (cs := [.int .i64 0, .int .i64 0, .slice none 0, .int .i64 0]) rfl rfl ?_)
 refine sO rfl rfl (oStore (n := 4) (cs' := [_, _, _, _]) rfl rfl rfl gG rfl (Nat.le_of_ble_eq_true rfl) rfl rfl ?_)
 show TrP 100 _ _ _ _
 refine tH [(0, _), (1, _), (2, _), (6, _), (7, _), (9, _)] ?_
 refine Tri.seq ?_
 refine Tri.seq ?_
 refine tR ?_
 refine sO rfl rfl (oW (at' (.ptr (some (_, 0)))) rfl rfl ?_)
 refine sO rfl rfl (oLoad (x := .at _) rfl gG rfl ?_)
 refine sO rfl rfl (oNE rfl (fun h24 => absurd rfl h24) (fun h24 => ?_))
 refine sV rfl rfl rfl ?_
 refine sO rfl rfl (oW (at' (.ptr (some (_, 2)))) rfl rfl ?_)
 refine sO rfl rfl (oLoad (x := .at _) rfl gG rfl ?_)
 refine sV rfl rfl rfl ?_
 refine sO rfl rfl (oNE rfl (fun h29 => absurd rfl h29) (fun h29 => ?_))
 refine sV rfl rfl rfl ?_
 show TrP 100 _ _ _ _
 refine tH [(0, _), (1, _), (2, _), (6, _), (7, _), (9, _), (30, _)] ?_
 refine tF rfl ?_
 refine Tri.skip ?_
 show TrP 100 _ _ _ _
 refine tH [(0, _), (1, _), (2, _), (6, _), (7, _), (9, _), (30, _)] ?_
 refine Tri.seq ?_
 refine tR ?_
 iterate 2 refine sV rfl rfl rfl ?_
 refine sO rfl rfl (oF rfl (fnOk_of Try.func19 (by decide) rfl) (bin_ok _ _ _ _) ?_)
 refine sV rfl rfl rfl ?_
 refine sO rfl rfl (oF rfl (fnOk_of Try.func19 (by decide) rfl) (bin_ok _ _ _ _) ?_)
 refine sV rfl rfl rfl ?_
 show TrP 100 _ _ _ _
 refine tH [(0, _), (1, _), (2, _), (6, _), (7, _), (9, _), (10, _), (30, _)] ?_
 refine Tri.seq ?_
 refine Tri.drawn1 mixed eqsOk (eqs := eqs) ⟨[0, 1, 3, 7, 0, 16, 48, 112, 255, 0, 512, 1536, 3584, 8191, 16383], [0, 0, 0, 0, 0, 0, 0, 0, 0, 0, 0, 0, 0, 0, 0], 1, [0, 1, 2, 3, 4, 5, 6, 7, 9, 10, 11, 12, 8, 13, 14]⟩ (by decide +kernel) rfl ?_
 refine dL rfl rfl rfl rfl (oW (at' (.ptr (some (_, 2)))) rfl rfl ?_)
 refine dR0 rfl rfl rfl rfl (op_load_at (x := .at (.slice (some (id1, p1)) 3)) rfl gG rfl) ?_
 refine dL rfl rfl rfl rfl (oIA (z := 1) (i := 0) (n := 3) rfl rfl rfl rfl (by omega) ?_)
 refine dR0 rfl rfl rfl rfl (op_load_at (x := .at (.int .i64 x)) rfl gG (part_one hx0 rfl rfl rfl)) ?_
 refine dL rfl rfl rfl rfl (oW (at' (.ptr (some (_, 2)))) rfl rfl ?_)
 refine dR0 rfl rfl rfl rfl (op_load_at (x := .at (.slice (some (id1, p1)) 3)) rfl gG rfl) ?_
 refine dL rfl rfl rfl rfl (oIA (z := 1) (i := 1) (n := 3) rfl rfl rfl rfl (by omega) ?_)
 refine dR0 rfl rfl rfl rfl (op_load_at (x := .at (.int .i64 y)) rfl gG (part_one hx1 rfl rfl rfl)) ?_
 refine dL rfl rfl rfl rfl (oW (at' (.ptr (some (_, 2)))) rfl rfl ?_)
 refine dR0 rfl rfl rfl rfl (op_load_at (x := .at (.slice (some (id1, p1)) 3)) rfl gG rfl) ?_
 refine dL rfl rfl rfl rfl (oIA (z := 1) (i := 2) (n := 3) rfl rfl rfl rfl (by omega) ?_)
 refine dR0 rfl rfl rfl rfl (op_load_at (x := .at (.int .i64 z)) rfl gG (part_one hx2 rfl rfl rfl)) ?_
 refine dC0 (.keep rfl (.keep rfl (.drop rfl (.drop rfl (.drop rfl (.drop rfl .nil)))))) rfl rfl rfl rfl (oF rfl (fnOk_of Try.func19 (by decide) rfl) (bin_ok _ _ _ _) ?_)
 refine ⟨⟨.inr (⟨_, rfl, (op_load_at (x := .at (.int .i64 z)) rfl gG (part_one hx2 rfl rfl rfl))⟩), .inr (⟨_, rfl, (op_load_at (x := .at (.slice (some (id1, p1)) 3)) rfl gG rfl)⟩), .inl rfl, .inl rfl, .inl rfl, .inl rfl, trivial⟩, ?_⟩
 refine dC0 (.drop rfl (.drop rfl .nil)) rfl rfl rfl rfl (oF rfl (fnOk_of Try.func19 (by decide) rfl) (bin_ok _ _ _ _) ?_)
 refine ⟨⟨.inl rfl, .inl rfl, trivial⟩, ?_⟩
 refine dL rfl rfl rfl rfl (oV rfl ?_)
 refine dE0 ?_
 show TrP 100 _ _ _ _
 refine tH [(0, _), (1, _), (2, _), (6, _), (7, _), (9, _), (10, _), (11, _), (30, _)] ?_
 refine Tri.seq ?_
 refine Tri.drawn1 mixed eqsOk (eqs := eqs) ⟨[0, 1, 3, 7, 0, 16, 48, 112, 255, 511, 1023, 2047, 4095, 8191, 1023, 17407, 50175, 115711, 262143, 524287, 1048575, 2097151, 4194303, 8388607, 16777215, 2097151, 2097151, 2097151, 236978175, 536870911, 1073741823, 2147483647, 4294967295, 8589934591, 17179869183, 34359738367, 4294967295, 4294967295, 4294967295, 485331304447, 1099511627775, 2199023255551, 4398046511103, 8796093022207, 8796093022207, 35184372088831, 70368744177663, 140737488355327, 281474976710655, 562949953421311, 1125899906842623], [0, 0, 0, 0, 0, 0, 0, 0, 0, 0, 0, 0, 0, 0, 0, 0, 0, 0, 0, 0, 0, 0, 0, 0, 0, 0, 0, 0, 0, 0, 0, 0, 0, 0, 0, 0, 0, 0, 0, 0, 0, 0, 0, 0, 0, 0, 0, 0, 0, 0, 0], 1, [0, 1, 2, 3, 4, 5, 6, 7, 8, 9, 10, 11, 12, 13, 14, 15, 16, 17, 18, 19, 20, 21, 22, 23, 24, 25, 26, 27, 28, 29, 30, 31, 32, 33, 34, 35, 36, 37, 38, 39, 40, 41, 42, 43, 44, 45, 46, 47, 48, 49, 50]⟩ (by decide +kernel) rfl ?_
 refine dL rfl rfl rfl rfl (oW (at' (.ptr (some (_, 2)))) rfl rfl ?_)
 refine dR0 rfl rfl rfl rfl (op_load_at (x := .at (.slice (some (id1, p1)) 3)) rfl gG rfl) ?_
 refine dL rfl rfl rfl rfl (oIA (z := 1) (i := 0) (n := 3) rfl rfl rfl rfl (by omega) ?_)
 refine dR0 rfl rfl rfl rfl (op_load_at (x := .at (.int .i64 x)) rfl gG (part_one hx0 rfl rfl rfl)) ?_
 refine dL rfl rfl rfl rfl (oW (at' (.ptr (some (_, 2)))) rfl rfl ?_)
 refine dR0 rfl rfl rfl rfl (op_load_at (x := .at (.slice (some (id1, p1)) 3)) rfl gG rfl) ?_
 refine dL rfl rfl rfl rfl (oIA (z := 1) (i := 1) (n := 3) rfl rfl rfl rfl (by omega) ?_)
 refine dR0 rfl rfl rfl rfl (op_load_at (x := .at (.int .i64 y)) rfl gG (part_one hx1 rfl rfl rfl)) ?_
 refine dL rfl rfl rfl rfl (oP rfl (fun h58 => ?_) (fun h58 => absurd hxy h58))
 refine dL rfl rfl rfl rfl (oV rfl ?_)
 refine dL rfl rfl rfl rfl (oW (at' (.ptr (some (_, 2)))) rfl rfl ?_)
 refine dR0 rfl rfl rfl rfl (op_load_at (x := .at (.slice (some (id1, p1)) 3)) rfl gG rfl) ?_
 refine dL rfl rfl rfl rfl (oIA (z := 1) (i := 1) (n := 3) rfl rfl rfl rfl (by omega) ?_)
 refine dR0 rfl rfl rfl rfl (op_load_at (x := .at (.int .i64 y)) rfl gG (part_one hx1 rfl rfl rfl)) ?_
 refine dL rfl rfl rfl rfl (oW (at' (.ptr (some (_, 2)))) rfl rfl ?_)
 refine dR0 rfl rfl rfl rfl (op_load_at (x := .at (.slice (some (id1, p1)) 3)) rfl gG rfl) ?_
 refine dL rfl rfl rfl rfl (oIA (z := 1) (i := 2) (n := 3) rfl rfl rfl rfl (by omega) ?_)
 refine dR0 rfl rfl rfl rfl (op_load_at (x := .at (.int .i64 z)) rfl gG (part_one hx2 rfl rfl rfl)) ?_
 refine dL rfl rfl rfl rfl (oP rfl (fun h68 => ?_) (fun h68 => absurd hyz h68))
 refine dL rfl rfl rfl rfl (oV rfl ?_)
 refine dL rfl rfl rfl rfl (oV rfl ?_)
 refine dL rfl rfl rfl rfl (oW (at' (.ptr (some (_, 2)))) rfl rfl ?_)
 refine dR0 rfl rfl rfl rfl (op_load_at (x := .at (.slice (some (id1, p1)) 3)) rfl gG rfl) ?_
 refine dL rfl rfl rfl rfl (oIA (z := 1) (i := 0) (n := 3) rfl rfl rfl rfl (by omega) ?_)
 refine dR0 rfl rfl rfl rfl (op_load_at (x := .at (.int .i64 x)) rfl gG (part_one hx0 rfl rfl rfl)) ?_
 refine dL rfl rfl rfl rfl (oV rfl ?_)
 refine dL rfl rfl rfl rfl (oV rfl ?_)
 refine dL rfl rfl rfl rfl (oV rfl ?_)
 refine dR0 rfl rfl rfl rfl rfl ?_
 refine dL rfl rfl rfl rfl (oE rfl (fun h79 => ?_) (fun h79 => absurd (by rw [hmin]; show min n0 (min n1 n2) = (if n2 < (if n1 < n0 then n1 else n0) then n2 else (if n1 < n0 then n1 else n0)); (repeat' split) <;> omega) h79))
 refine dL rfl rfl rfl rfl (oV rfl ?_)
 refine dL rfl rfl rfl rfl (oV rfl ?_)
 refine dL rfl rfl rfl rfl (oW (at' (.ptr (some (_, 2)))) rfl rfl ?_)
 refine dR0 rfl rfl rfl rfl (op_load_at (x := .at (.slice (some (id1, p1)) 3)) rfl gG rfl) ?_
 refine dL rfl rfl rfl rfl (oIA (z := 1) (i := 2) (n := 3) rfl rfl rfl rfl (by omega) ?_)
 refine dR0 rfl rfl rfl rfl (op_load_at (x := .at (.int .i64 z)) rfl gG (part_one hx2 rfl rfl rfl)) ?_
 refine dL rfl rfl rfl rfl (oV rfl ?_)
 refine dL rfl rfl rfl rfl (oV rfl ?_)
 refine dL rfl rfl rfl rfl (oV rfl ?_)
 refine dR0 rfl rfl rfl rfl rfl ?_
 refine dL rfl rfl rfl rfl (oE rfl (fun h90 => ?_) (fun h90 => absurd (by rw [hmax]; show max n0 (max n1 n2) = (if n2 > (if n1 > n0 then n1 else n0) then n2 else (if n1 > n0 then n1 else n0)); (repeat' split) <;> omega) h90))
 refine dL rfl rfl rfl rfl (oV rfl ?_)
 refine dL rfl rfl rfl rfl (oV rfl ?_)
 refine dL rfl rfl rfl rfl (oV rfl ?_)
 refine dL rfl rfl rfl rfl (oV rfl ?_)
 refine dL rfl rfl rfl rfl (oE rfl (fun h95 => ?_) (fun h95 => absurd hxor h95))
 refine dL rfl rfl rfl rfl (oV rfl ?_)
 refine dL rfl rfl rfl rfl (oV rfl ?_)
 refine dC0 (.drop rfl (.drop rfl (.drop rfl (.drop rfl (.drop rfl (.drop rfl (.drop rfl (.drop rfl (.drop rfl (.drop rfl (.drop rfl (.drop rfl (.drop rfl (.drop rfl .nil)))))))))))))) rfl rfl rfl rfl (oF rfl (fnOk_of Try.func3 (by decide) rfl) (iexamples_ok _) ?_)
 refine ⟨⟨.inl rfl, .inl rfl, .inl rfl, .inl rfl, .inl rfl, .inl rfl, .inl rfl, .inl rfl, .inl rfl, .inl rfl, .inl rfl, .inl rfl, .inl rfl, .inl rfl, trivial⟩, ?_⟩
 refine dL rfl rfl rfl rfl (oV rfl ?_)
 refine dL rfl rfl rfl rfl (oV rfl ?_)
 refine dE0 ?_
 show TrP 100 _ _ _ _
 refine tH [(0, _), (1, _), (2, _), (6, _), (7, _), (9, _), (10, _), (11, _), (30, _)] ?_
 refine Tri.ret ?_
 refine ⟨trivial, _, rfl, ?_⟩
 exact ⟨rfl, trivial⟩
end Go.Proofs.Ytnhobbjbgljpnaa
