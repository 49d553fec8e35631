/-
  THE WALK of fullinglaw6.InterpFresh (printed by wip/tools/walk.py from wip/specs/intIFresh.py). Written in this session.
-/
import Derived.Test.YtnhobbjbgljpnaaIk
import Derived.Test.YtnhobbjbgljpnaaMa
namespace Go.Proofs.Ytnhobbjbgljpnaa
open Go.Ea
set_option maxRecDepth 100000
set_option linter.unusedVariables false
set_option linter.unusedSimpArgs false
theorem row1o {H : Heap} {id : Nat} {T : TypeId} {k : Nat} {a : Int} (h : H.get id = some (.cells T k [.int .i64 a])) : RowR H numC 1 [a] (some (id, 0)) := ⟨fun e => (by cases e), fun i o e => .inr (by cases e; exact ⟨T, k, _, h, by simp, rfl⟩)⟩

set_option maxHeartbeats 4000000 in
theorem fresh_ok (l : List Int) (r0 : Nat × Nat) (n0 n1 n2 n3 : Int) (H : Heap) (hl : RowR H (fun x => [AT.int .i64 x]) 1 l (some r0)) : Sim Try.prog 9 [at' (.slice (some r0) l.length), at' (.int .i64 n0), at' (.int .i64 n1), at' (.int .i64 n2), at' (.int .i64 n3)] H (fun u G => u = at' (.bool true) ∧ True) := by
 refine Sim.of_tri Try.func9 rfl ?_
 show TrP 63 _ _ _ _
 refine Tri.seq ?_
 refine tR ?_
 refine sV rfl rfl rfl ?_
 show TrP 63 _ _ _ _
 refine tH [(0, _), (1, _), (2, _), (3, _), (4, _), (10, _)] ?_
 refine Tri.seq ?_
 refine tR ?_
 refine sV rfl rfl rfl ?_
 refine sO rfl rfl (oC rfl (fnOk_of Try.func15 (by decide) rfl) (Program_ok l r0 _ hl) ?_)
 rintro u G1 ⟨ida, idf, b1, b2, v1, v2, la, lb, p1, l1, q1, p2, l2, q2, c1, c2, rfl, hLd, hRd, hia, hif, hk1⟩
 have hLP := hLd.prog
 refine sO rfl rfl (oAlloc (cs := [.slice none 0, .slice none 0]) rfl rfl ?_)
 refine sO rfl rfl (oStore (n := 2) (cs' := [_, _]) rfl rfl rfl gG rfl (Nat.le_of_ble_eq_true rfl) rfl rfl ?_)
 show TrP 63 _ _ _ _
 refine tH [(0, _), (1, _), (2, _), (3, _), (4, _), (10, _), (11, _)] ?_
 refine Tri.seq ?_
 refine tR ?_
 iterate 3 refine sV rfl rfl rfl ?_
 refine sO rfl rfl (oC rfl (fnOk_of Try.func16 (by decide) rfl) (Args_ok _ _ _ _) ?_)
 rintro u G ⟨w1, w2, rfl, rfl⟩
 refine sV rfl rfl rfl ?_
 show TrP 63 _ _ _ _
 refine tH [(0, _), (1, _), (2, _), (3, _), (4, _), (10, _), (11, _), (12, _)] ?_
 refine Tri.seq ?_
 refine Tri.drawn1 mixed eqsOk (eqs := eqs) ⟨[0, 0, 0, 4, 15, 0, 63], [0, 0, 0, 0, 0, 0, 0], 1, [0, 1, 2, 5, 3, 4, 6]⟩ (by decide +kernel) rfl ?_
 obtain ⟨o1, hO1⟩ : ∃ o, runS (prF la lb b1 b2 v1 v2) [102] [w1, w2] ((pk n3 12 : Nat) : Int) = o := ⟨_, rfl⟩
 obtain ⟨o3, hO3⟩ : ∃ o, runS (prF la lb b1 b2 v1 v2) [103] [w1] ((pk n3 12 : Nat) : Int) = o := ⟨_, rfl⟩
 refine dR0 rfl rfl rfl rfl (op_load_at (x := .agg [_, _]) rfl gG rfl) ?_
 refine dL rfl rfl rfl rfl (oV rfl ?_)
 refine dL rfl rfl rfl rfl (oV rfl ?_)
 refine dM rfl rfl rfl rfl (obj := .cells 34 1 [.int .i64 0, .int .i64 0, .slice none 0, .int .i64 0]) (v := at' (.ptr (some (G1.n + 2, 0)))) rfl ?_
 refine dCm (Heap.push _ .dead) (.keep rfl .nil) (.keep rfl .nil) rfl rfl rfl rfl rfl (oF rfl (fnOk_of Try.func17 (by decide) rfl) (Fuel_ok _ _) ?_)
 refine ⟨⟨.inr (⟨_, rfl, (by dsimp only; rw [matP_cons_false rfl]; exact op_load_at (x := .agg [.slice (some (ida, 0)) 2, .slice (some (idf, 0)) 2]) rfl (show (Heap.push (((G1.push (.cells 25 1 [.slice none 0, .slice none 0])).set G1.n (.cells 25 1 [.slice (some (ida, 0)) 2, .slice (some (idf, 0)) 2])).push (.cells 2 2 [.int .i64 w1, .int .i64 w2])) .dead).get G1.n = some (.cells 25 1 [.slice (some (ida, 0)) 2, .slice (some (idf, 0)) 2]) from gG) rfl)⟩), trivial⟩, ?_⟩
 refine dCm (Heap.push _ .dead) (.keep rfl .nil) (.drop rfl .nil) rfl rfl rfl rfl rfl (oC rfl (fnOk_of Try.func14 (by decide) rfl) (RunO (prF la lb b1 b2 v1 v2) _ [102] [w1, w2] (some (_, 0)) _ _ (hLP.kp kZ) hRd.lowF (row2n gG) o1 hO1) ?_)
 rintro u G3 ⟨r1, rfl, hr1, hrid1, hol1, hk3⟩
 have hcp3 : G3.get G1.n = some (.cells 25 1 [.slice (some (ida, 0)) 2, .slice (some (idf, 0)) 2]) := hk3.get gG rfl
 have hca3 : G3.get (G1.n + 1) = some (.cells 2 2 [.int .i64 w1, .int .i64 w2]) := hk3.get gG rfl
 have hK3 : Kp [] G1 G3 := (show Kp [] G1 _ from kZ).trans0 hk3
 have hcl3 := Heap.get_lt hcp3
 have hca3l := Heap.get_lt hca3
 have hn3 := hk3.n
 (try simp only [Heap.n_push, Heap.n_set] at hn3)
 have hro1 : ∀ p, r1 = some p → p.1 ∉ [G1.n + 2] := fun p hp hm => by
   have := (hrid1 p hp).1
   simp only [List.mem_cons, List.not_mem_nil, or_false, Heap.n_push, Heap.n_set] at this hm
   omega
 refine ⟨⟨.inl rfl, trivial⟩, ?_⟩
 refine dCm (Heap.set G3 (_ + 0) _) (.drop rfl .nil) .nil rfl rfl rfl rfl rfl (oStore (n := 4) (cs' := [_, _, _, _]) rfl rfl rfl gG rfl (Nat.le_of_ble_eq_true rfl) rfl rfl ?_)
 refine ⟨trivial, ?_⟩
 refine dE0 ?_
 show TrP 63 _ _ _ _
 refine tH [(0, _), (1, _), (2, _), (3, _), (4, _), (10, _), (11, _), (12, _), (13, _)] ?_
 refine Tri.seq ?_
 refine Tri.drawn1 mixed eqsOk (eqs := eqs) ⟨[0, 0, 2, 0, 8, 31], [0, 0, 0, 0, 0, 0], 1, [0, 1, 2, 3, 4, 5]⟩ (by decide +kernel) rfl ?_
 refine dR0 rfl rfl rfl rfl (op_load_at (x := .agg [_, _]) rfl gG rfl) ?_
 refine dL rfl rfl rfl rfl (oV rfl ?_)
 refine dL rfl rfl rfl rfl (oV rfl ?_)
 refine dL rfl rfl rfl rfl (oV rfl ?_)
 refine dC0 (.keep rfl .nil) rfl rfl rfl rfl (oF rfl (fnOk_of Try.func17 (by decide) rfl) (Fuel_ok _ _) ?_)
 refine ⟨⟨.inr (⟨_, rfl, op_load_at (x := .agg [.slice (some (ida, 0)) 2, .slice (some (idf, 0)) 2]) rfl (show _ = some (.cells 25 1 [.slice (some (ida, 0)) 2, .slice (some (idf, 0)) 2]) from gG) rfl⟩), trivial⟩, ?_⟩
 refine dC0 (.drop rfl .nil) rfl rfl rfl rfl (oC rfl (fnOk_of Try.func14 (by decide) rfl) (RunO (prF la lb b1 b2 v1 v2) _ [103] [w1] (some (_, 0)) _ _ (hLP.kp (show Kp [] G1 _ from kH)) hRd.lowF (row1n gG) o3 hO3) ?_)
 rintro u G4 ⟨r3, rfl, hr3, hrid3, hol3, hk4⟩
 have hcp4 : G4.get G1.n = some (.cells 25 1 [.slice (some (ida, 0)) 2, .slice (some (idf, 0)) 2]) := hk4.get gG rfl
 have hca4 : G4.get (G1.n + 1) = some (.cells 2 2 [.int .i64 w1, .int .i64 w2]) := hk4.get gG rfl
 have hK4 : Kp [] G1 G4 := (show Kp [] G1 _ from kH).trans0 hk4
 have hcl4 := Heap.get_lt hcp4
 have hca4l := Heap.get_lt hca4
 have hn4 := hk4.n
 (try simp only [Heap.n_push, Heap.n_set] at hn4)
 have hc13 : G4.get (G1.n + 2) = some (.cells 34 1 [.int .i64 o1.kind, .int .i64 o1.code, .slice r1 o1.out.length, .int .i64 o1.value]) := hk4.get gG rfl
 have hr1b : RowR G4 numC 1 o1.out r1 := (hr1.kpo (own := [G1.n + 2]) kQ hro1).kp hk4
 have hrl1 : ∀ p, r1 = some p → p.1 < G4.n := fun p hp => by have := (hrid1 p hp).2; omega
 refine ⟨⟨.inl rfl, trivial⟩, ?_⟩
 refine dE0 ?_
 show TrP 63 _ _ _ _
 refine tH [(0, _), (1, _), (2, _), (3, _), (4, _), (10, _), (11, _), (12, _), (13, _)] ?_
 refine Tri.seq ?_
 refine Tri.drawn1 mixed eqsOk (eqs := eqs) ⟨[0, 0, 0, 4, 15, 0, 63], [0, 0, 0, 0, 0, 0, 0], 1, [0, 1, 2, 5, 3, 4, 6]⟩ (by decide +kernel) rfl ?_
 refine dR0 rfl rfl rfl rfl (op_load_at (x := .agg [_, _]) rfl gG rfl) ?_
 refine dL rfl rfl rfl rfl (oV rfl ?_)
 refine dL rfl rfl rfl rfl (oV rfl ?_)
 refine dM rfl rfl rfl rfl (obj := .cells 34 1 [.int .i64 0, .int .i64 0, .slice none 0, .int .i64 0]) (v := at' (.ptr (some (G4.n, 0)))) rfl ?_
 refine dCm (Heap.push _ .dead) (.keep rfl .nil) (.keep rfl .nil) rfl rfl rfl rfl rfl (oF rfl (fnOk_of Try.func17 (by decide) rfl) (Fuel_ok _ _) ?_)
 refine ⟨⟨.inr (⟨_, rfl, (by dsimp only; rw [matP_cons_false rfl]; exact op_load_at (x := .agg [.slice (some (ida, 0)) 2, .slice (some (idf, 0)) 2]) rfl (show (Heap.push G4 .dead).get G1.n = some (.cells 25 1 [.slice (some (ida, 0)) 2, .slice (some (idf, 0)) 2]) from gG) rfl)⟩), trivial⟩, ?_⟩
 refine dCm (Heap.push _ .dead) (.keep rfl .nil) (.drop rfl .nil) rfl rfl rfl rfl rfl (oC rfl (fnOk_of Try.func14 (by decide) rfl) (RunO (prF la lb b1 b2 v1 v2) _ [102] [w1, w2] (some (_, 0)) _ _ (hLP.kp (show Kp [] G1 _ from kH)) hRd.lowF (row2n gG) o1 hO1) ?_)
 rintro u G5 ⟨r2, rfl, hr2, hrid2, hol2, hk5⟩
 have hc135 : G5.get (G1.n + 2) = some (.cells 34 1 [.int .i64 o1.kind, .int .i64 o1.code, .slice r1 o1.out.length, .int .i64 o1.value]) := hk5.get gG rfl
 have hr1c : RowR G5 numC 1 o1.out r1 := hr1b.kp ((show Kp [] G4 _ from kZ).trans0 hk5)
 have hn5 := hk5.n
 (try simp only [Heap.n_push, Heap.n_set] at hn5)
 have hro1b : ∀ p, r1 = some p → p.1 ∉ [G4.n] := fun p hp hm => by
   have := hrl1 p hp
   simp only [List.mem_cons, List.not_mem_nil, or_false] at hm
   omega
 have hro2 : ∀ p, r2 = some p → p.1 ∉ [G4.n] := fun p hp hm => by
   have := (hrid2 p hp).1
   simp only [List.mem_cons, List.not_mem_nil, or_false, Heap.n_push, Heap.n_set] at this hm
   omega
 refine ⟨⟨.inl rfl, trivial⟩, ?_⟩
 refine dCm (Heap.set G5 (_ + 0) _) (.drop rfl .nil) .nil rfl rfl rfl rfl rfl (oStore (n := 4) (cs' := [_, _, _, _]) rfl rfl rfl gG rfl (Nat.le_of_ble_eq_true rfl) rfl rfl ?_)
 refine ⟨trivial, ?_⟩
 refine dE0 ?_
 show TrP 63 _ _ _ _
 refine tH [(0, _), (1, _), (2, _), (3, _), (4, _), (10, _), (11, _), (12, _), (13, _), (14, _)] ?_
 refine Tri.seq ?_
 refine tR ?_
 refine sO rfl rfl (oC rfl (fnOk_of Try.func12 (by decide) rfl) (pa_ok _) ?_)
 rintro u G6 ⟨cs6, rfl, hL6, hk6⟩
 have hLP6 := hL6
 obtain ⟨qa6, qf6, rfl, _, _⟩ := hLP6
 have hc136 : G6.get (G1.n + 2) = some (.cells 34 1 [.int .i64 o1.kind, .int .i64 o1.code, .slice r1 o1.out.length, .int .i64 o1.value]) := hk6.get gG rfl
 have hc146 : G6.get G4.n = some (.cells 34 1 [.int .i64 o1.kind, .int .i64 o1.code, .slice r2 o1.out.length, .int .i64 o1.value]) := hk6.get gG rfl
 have hr1d : RowR G6 numC 1 o1.out r1 := (hr1c.kpo (own := [G4.n]) kQ hro1b).kp hk6
 have hr2d : RowR G6 numC 1 o1.out r2 := (hr2.kpo (own := [G4.n]) kQ hro2).kp hk6
 have hl136 := Heap.get_lt hc136
 have hl146 := Heap.get_lt hc146
 iterate 3 refine sV rfl rfl rfl ?_
 refine sO rfl rfl (oAlloc (cs := [.slice none 0, .slice none 0]) rfl rfl ?_)
 refine sO rfl rfl (oAlloc (cs := [.int .i64 0, .int .i64 0]) rfl rfl ?_)
 refine sO rfl rfl (oStore (n := 2) (cs' := [_, _]) rfl rfl rfl gG rfl (Nat.le_of_ble_eq_true rfl) rfl rfl ?_)
 refine sO rfl rfl (oStore (n := 2) (cs' := [_, _]) rfl rfl rfl gG rfl (Nat.le_of_ble_eq_true rfl) rfl rfl ?_)
 show TrP 63 _ _ _ _
 refine tH [(0, _), (1, _), (2, _), (3, _), (4, _), (10, _), (11, _), (12, _), (13, _), (14, _), (15, _)] ?_
 refine Tri.seq ?_
 refine tR ?_
 refine sO rfl rfl (oLoad (x := .agg [_, _]) rfl gG rfl ?_)
 refine sO rfl rfl (oBS1 (n := 1) rfl rfl rfl rfl rfl (by omega) (by omega) rfl ?_)
 refine sO rfl rfl (oC rfl (fnOk_of Try.func14 (by decide) rfl) (RunO paP _ [102] [2] (some (_, 0)) _ _ (hL6.kp kZ) pa_low (row1o gG) ⟨1, 0, [], 1⟩ pa_run) ?_)
 rintro u G7 ⟨r7, rfl, hr7, hrid7, hol7, hk7⟩
 have hc137 : G7.get (G1.n + 2) = some (.cells 34 1 [.int .i64 o1.kind, .int .i64 o1.code, .slice r1 o1.out.length, .int .i64 o1.value]) := hk7.get gG rfl
 have hc147 : G7.get G4.n = some (.cells 34 1 [.int .i64 o1.kind, .int .i64 o1.code, .slice r2 o1.out.length, .int .i64 o1.value]) := hk7.get gG rfl
 have hr1e : RowR G7 numC 1 o1.out r1 := (hr1d.kp kZ).kp hk7
 have hr2e : RowR G7 numC 1 o1.out r2 := (hr2d.kp kZ).kp hk7
 have hl137 := Heap.get_lt hc137
 have hl147 := Heap.get_lt hc147
 refine sO rfl rfl (oAlloc (cs := [.int .i64 0, .int .i64 0, .slice none 0, .int .i64 0]) rfl rfl ?_)
 refine sO rfl rfl (oStore (n := 4) (cs' := [_, _, _, _]) rfl rfl rfl gG rfl (Nat.le_of_ble_eq_true rfl) rfl rfl ?_)
 show TrP 63 _ _ _ _
 refine tH [(0, _), (1, _), (2, _), (3, _), (4, _), (10, _), (11, _), (12, _), (13, _), (14, _), (15, _), (17, _)] ?_
 refine Tri.seq ?_
 refine tR ?_
 refine sO rfl rfl (oLoad (x := .agg [_, _, _, _]) rfl gG rfl ?_)
 refine sO rfl rfl (oLoad (x := .agg [_, _, _, _]) rfl gG rfl ?_)
 refine sO rfl rfl (oFB rfl (fnOk_of Try.func13 (by decide) rfl) (Same_ok o1 o1 r1 r2 _ (hr1e.kp kZ) (hr2e.kp kZ) (by omega)) (fun h49 => ?_) (fun h49 => absurd rfl (of_decide_eq_false h49)))
 refine sV rfl rfl rfl ?_
 refine sO rfl rfl (oW (at' (.ptr (some (_, 0)))) rfl rfl ?_)
 refine sO rfl rfl (oLoad (x := .at _) rfl gG rfl ?_)
 refine sO rfl rfl (oE rfl (fun h53 => ?_) (fun h53 => absurd rfl h53))
 iterate 2 refine sV rfl rfl rfl ?_
 refine sO rfl rfl (oW (at' (.ptr (some (_, 3)))) rfl rfl ?_)
 refine sO rfl rfl (oLoad (x := .at _) rfl gG rfl ?_)
 refine sO rfl rfl (oE rfl (fun h58 => ?_) (fun h58 => absurd rfl h58))
 iterate 2 refine sV rfl rfl rfl ?_
 refine sO rfl rfl (oF rfl (fnOk_of Try.func3 (by decide) rfl) (iexamples_ok _) ?_)
 iterate 2 refine sV rfl rfl rfl ?_
 show TrP 63 _ _ _ _
 refine tH [(0, _), (1, _), (2, _), (3, _), (4, _), (10, _), (11, _), (12, _), (13, _), (14, _), (15, _), (17, _)] ?_
 refine Tri.ret ?_
 refine ⟨trivial, _, rfl, ?_⟩
 exact ⟨rfl, trivial⟩
end Go.Proofs.Ytnhobbjbgljpnaa
