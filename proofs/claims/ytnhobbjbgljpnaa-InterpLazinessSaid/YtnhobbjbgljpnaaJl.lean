/-
  THE WALK of fullinglaw6.InterpLaziness (printed by wip/tools/walk.py from wip/specs/intILaziness.py). Written in this session.
-/
import Derived.Test.YtnhobbjbgljpnaaIk
import Derived.Test.YtnhobbjbgljpnaaMd
namespace Go.Proofs.Ytnhobbjbgljpnaa
open Go.Ea
set_option maxRecDepth 100000
set_option linter.unusedVariables false
set_option linter.unusedSimpArgs false
theorem row1o {H : Heap} {id : Nat} {T : TypeId} {k : Nat} {a : Int} (h : H.get id = some (.cells T k [.int .i64 a])) : RowR H numC 1 [a] (some (id, 0)) := ⟨fun e => (by cases e), fun i o e => .inr (by cases e; exact ⟨T, k, _, h, by simp, rfl⟩)⟩

set_option maxHeartbeats 4000000 in
theorem lazy_ok (n0 n1 : Int) (b : Bool) (H : Heap) : Sim Try.prog 7 [at' (.int .i64 n0), at' (.int .i64 n1), at' (.bool b)] H (fun u G => u = at' (.bool true) ∧ True) := by
 obtain ⟨of, og, oh, ok, hF, hG, hHh, hKk, hA, hB, hC, hD⟩ := lz_law n0 n1
 refine Sim.of_tri Try.func7 rfl ?_
 show TrP 91 _ _ _ _
 cases b
 ·
  refine Tri.seq ?_
  refine tR ?_
  refine sV rfl rfl rfl ?_
  show TrP 91 _ _ _ _
  refine tH [(0, _), (1, _), (2, _), (6, _)] ?_
  refine Tri.seq ?_
  refine tR ?_
  refine sO rfl rfl (oC rfl (fnOk_of Try.func12 (by decide) rfl) (pd_ok _) ?_)
  rintro u G2 ⟨cs2, rfl, hL2, hk2⟩
  have hLP2 := hL2
  obtain ⟨qa2, qf2, rfl, _, _⟩ := hLP2
  iterate 3 refine sV rfl rfl rfl ?_
  refine sO rfl rfl (oAlloc (cs := [.slice none 0, .slice none 0]) rfl rfl ?_)
  refine sO rfl rfl (oAlloc (cs := [.int .i64 0, .int .i64 0]) rfl rfl ?_)
  refine sO rfl rfl (oStore (n := 2) (cs' := [_, _]) rfl rfl rfl gG rfl (Nat.le_of_ble_eq_true rfl) rfl rfl ?_)
  refine sO rfl rfl (oStore (n := 2) (cs' := [_, _]) rfl rfl rfl gG rfl (Nat.le_of_ble_eq_true rfl) rfl rfl ?_)
  show TrP 91 _ _ _ _
  refine tH [(0, _), (1, _), (2, _), (6, _), (7, _)] ?_
  refine Tri.seq ?_
  refine tR ?_
  iterate 2 refine sV rfl rfl rfl ?_
  refine sO rfl rfl (oBS2 rfl rfl rfl rfl rfl ?_)
  refine sV rfl rfl rfl ?_
  show TrP 91 _ _ _ _
  refine tH [(0, _), (1, _), (2, _), (6, _), (7, _), (9, _)] ?_
  refine Tri.seq ?_
  refine Tri.drawn2 mixed eqsOk (eqs := eqs) ⟨[0, 0, 3, 0, 0, 31, 0, 0, 255, 511], [0, 0, 0, 0, 0, 0, 0, 1, 0, 0], 2, [0, 1, 3, 4, 6, 7, 2, 5, 8, 9]⟩ (by decide +kernel) rfl ?_
  refine dR0 rfl rfl rfl rfl (op_load_at (x := .agg [_, _]) rfl gG rfl) ?_
  refine dL rfl rfl rfl rfl (oV rfl ?_)
  refine dR0 rfl rfl rfl rfl (op_load_at (x := .agg [_, _]) rfl gG rfl) ?_
  refine dL rfl rfl rfl rfl (oV rfl ?_)
  refine dM rfl rfl rfl rfl (obj := .cells 34 1 [.int .i64 0, .int .i64 0, .slice none 0, .int .i64 0]) (v := at' (.ptr (some (G2.n + 3, 0)))) rfl ?_
  refine dM rfl rfl rfl rfl (obj := .cells 34 1 [.int .i64 0, .int .i64 0, .slice none 0, .int .i64 0]) (v := at' (.ptr (some (G2.n + 4, 0)))) rfl ?_
  refine dCm (Heap.push (Heap.push _ .dead) .dead) (.keep rfl (.keep rfl .nil)) (.keep rfl (.drop rfl .nil)) rfl rfl rfl rfl rfl (oC rfl (fnOk_of Try.func14 (by decide) rfl) (RunO pdP _ [102] [n0, n1] (some (_, 0)) _ _ (hL2.kp kZ) pd_low (row2n gG) of hF) ?_)
  rintro u G3 ⟨r1, rfl, hr1, hrid1, hol1, hk3⟩
  have hK3 : Kp [] G2 G3 := (show Kp [] G2 _ from kZ).trans0 hk3
  have hcp3 : G3.get G2.n = some (.cells 25 1 [.slice qa2 pdP.arrays.length, .slice qf2 pdP.funcs.length]) := hk3.get gG rfl
  have hca3 : G3.get (G2.n + 2) = some (.cells 2 2 [.int .i64 n0, .int .i64 n1]) := hk3.get gG rfl
  have hn3 := hk3.n
  (try simp only [Heap.n_push, Heap.n_set] at hn3)
  refine ⟨⟨.inr (⟨_, rfl, (by dsimp only; rw [matP_cons_false rfl, matP_cons_false rfl]; exact op_load_at (x := .agg [.slice qa2 pdP.arrays.length, .slice qf2 pdP.funcs.length]) rfl hcp3 rfl)⟩), .inl rfl, trivial⟩, ?_⟩
  refine dCm G3 (.keep rfl (.keep rfl .nil)) (.drop rfl .nil) rfl rfl rfl rfl rfl (oC rfl (fnOk_of Try.func14 (by decide) rfl) (RunO pdP _ [103] [n0, n1] (some (_, 0)) _ _ (hL2.kp (show Kp [] G2 _ from kH)) pd_low (row2n gG) og hG) ?_)
  rintro u G4 ⟨r2, rfl, hr2, hrid2, hol2, hk4⟩
  have hK4 : Kp [] G2 G4 := hK3.trans0 hk4
  have hcp4 : G4.get G2.n = some (.cells 25 1 [.slice qa2 pdP.arrays.length, .slice qf2 pdP.funcs.length]) := hk4.get hcp3 rfl
  have hca4 : G4.get (G2.n + 2) = some (.cells 2 2 [.int .i64 n0, .int .i64 n1]) := hk4.get hca3 rfl
  have hn4 := hk4.n
  (try simp only [Heap.n_push, Heap.n_set] at hn4)
  refine ⟨⟨.inl rfl, trivial⟩, ?_⟩
  refine dCm (Heap.set (Heap.set G4 (_ + 0) _) (_ + 1) _) (.drop rfl (.drop rfl .nil)) .nil rfl rfl rfl rfl rfl (oStore (n := 4) (cs' := [.int .i64 of.kind, .int .i64 of.code, .slice r1 of.out.length, .int .i64 of.value]) rfl rfl rfl gG rfl (Nat.le_of_ble_eq_true rfl) rfl rfl ?_)
  refine ⟨trivial, ?_⟩
  refine dC0 .nil rfl rfl rfl rfl (oStore (n := 4) (cs' := [.int .i64 og.kind, .int .i64 og.code, .slice r2 og.out.length, .int .i64 og.value]) rfl rfl rfl gG rfl (Nat.le_of_ble_eq_true rfl) rfl rfl ?_)
  refine ⟨trivial, ?_⟩
  refine dE0 ?_
  show TrP 91 _ _ _ _
  refine tH [(0, _), (1, _), (2, _), (6, _), (7, _), (9, _), (10, _), (11, _)] ?_
  refine Tri.seq ?_
  refine tR ?_
  iterate 2 refine sV rfl rfl rfl ?_
  show TrP 91 _ _ _ _
  refine tH [(0, _), (1, _), (2, _), (6, _), (7, _), (9, _), (10, _), (11, _), (12, _), (13, _)] ?_
  refine Tri.seq ?_
  refine Tri.seq ?_
  refine tR ?_
  refine sV rfl rfl rfl ?_
  show TrP 91 _ _ _ _
  refine tH [(0, _), (1, _), (2, _), (6, _), (7, _), (9, _), (10, _), (11, _), (12, _), (13, _), (28, _)] ?_
  refine tF rfl ?_
  refine Tri.skip ?_
  show TrP 91 _ _ _ _
  refine tH [(0, _), (1, _), (2, _), (6, _), (7, _), (9, _), (10, _), (11, _), (12, _), (13, _), (28, _)] ?_
  refine Tri.seq ?_
  refine tR ?_
  refine sO rfl rfl (oLoad (x := .agg [_, _]) rfl gG rfl ?_)
  iterate 2 refine sV rfl rfl rfl ?_
  refine sO rfl rfl (oC rfl (fnOk_of Try.func14 (by decide) rfl) (RunO pdP _ [104] [n0, n1] (some (_, 0)) _ _ (hL2.kp (show Kp [] G2 _ from kH)) pd_low (row2n gG) oh hHh) ?_)
  rintro u G5 ⟨r3, rfl, hr3, hrid3, hol3, hk5⟩
  have hc10 : G5.get (G2.n + 3) = some (.cells 34 1 [.int .i64 of.kind, .int .i64 of.code, .slice r1 of.out.length, .int .i64 of.value]) := hk5.get gG rfl
  have hc11 : G5.get (G2.n + 4) = some (.cells 34 1 [.int .i64 og.kind, .int .i64 og.code, .slice r2 og.out.length, .int .i64 og.value]) := hk5.get gG rfl
  have hl10 := Heap.get_lt hc10
  have hl11 := Heap.get_lt hc11
  refine sO rfl rfl (oAlloc (cs := [.int .i64 0, .int .i64 0, .slice none 0, .int .i64 0]) rfl rfl ?_)
  refine sO rfl rfl (oStore (n := 4) (cs' := [_, _, _, _]) rfl rfl rfl gG rfl (Nat.le_of_ble_eq_true rfl) rfl rfl ?_)
  show TrP 91 _ _ _ _
  refine tH [(0, _), (1, _), (2, _), (6, _), (7, _), (9, _), (10, _), (11, _), (12, _), (13, _), (14, _), (28, _)] ?_
  refine Tri.seq ?_
  refine Tri.seq ?_
  refine tR ?_
  refine sV rfl rfl rfl ?_
  refine sO rfl rfl (oNE rfl (fun h34 => ?_) (fun h34 => ?_))
  ·
   show TrP 91 _ _ _ _
   refine tH [(0, _), (1, _), (2, _), (6, _), (7, _), (9, _), (10, _), (11, _), (12, _), (13, _), (14, _), (28, _), (34, _)] ?_
   refine tT rfl ?_
   refine Tri.seq ?_
   refine tR ?_
   refine sO rfl rfl (oW (at' (.ptr (some (_, 0)))) rfl rfl ?_)
   refine sO rfl rfl (oLoad (x := .at _) rfl gG rfl ?_)
   refine sO rfl rfl (oE rfl (fun h37 => ?_) (fun h37 => absurd (hA h34).1 h37))
   refine sV rfl rfl rfl ?_
   refine sO rfl rfl (oW (at' (.ptr (some (_, 3)))) rfl rfl ?_)
   refine sO rfl rfl (oLoad (x := .at _) rfl gG rfl ?_)
   refine sV rfl rfl rfl ?_
   refine sO rfl rfl (oE rfl (fun h42 => ?_) (fun h42 => absurd (hA h34).2.1 h42))
   iterate 2 refine sV rfl rfl rfl ?_
   refine sO rfl rfl (oW (at' (.ptr (some (_, 0)))) rfl rfl ?_)
   refine sO rfl rfl (oLoad (x := .at _) rfl gG rfl ?_)
   refine sO rfl rfl (oE rfl (fun h47 => ?_) (fun h47 => absurd (hA h34).2.2.1 h47))
   iterate 2 refine sV rfl rfl rfl ?_
   refine sO rfl rfl (oW (at' (.ptr (some (_, 1)))) rfl rfl ?_)
   refine sO rfl rfl (oLoad (x := .at _) rfl gG rfl ?_)
   refine sO rfl rfl (oE rfl (fun h52 => ?_) (fun h52 => absurd (hA h34).2.2.2 h52))
   iterate 2 refine sV rfl rfl rfl ?_
   refine sO rfl rfl (oW (at' (.ptr (some (_, 1)))) rfl rfl ?_)
   refine sO rfl rfl (oLoad (x := .at _) rfl gG rfl ?_)
   refine sV rfl rfl rfl ?_
   refine sO rfl rfl (oE rfl (fun h58 => ?_) (fun h58 => absurd hC h58))
   iterate 2 refine sV rfl rfl rfl ?_
   refine sO rfl rfl (oF rfl (fnOk_of Try.func3 (by decide) rfl) (iexamples_ok _) ?_)
   iterate 2 refine sV rfl rfl rfl ?_
   show TrP 91 _ _ _ _
   refine tH [(0, _), (1, _), (2, _), (6, _), (7, _), (9, _), (10, _), (11, _), (12, _), (13, _), (14, _), (28, _), (34, _)] ?_
   refine Tri.ret ?_
   refine ⟨trivial, _, rfl, ?_⟩
   exact ⟨rfl, trivial⟩
  ·
   show TrP 91 _ _ _ _
   refine tH [(0, _), (1, _), (2, _), (6, _), (7, _), (9, _), (10, _), (11, _), (12, _), (13, _), (14, _), (28, _), (34, _)] ?_
   refine tF rfl ?_
   refine Tri.skip ?_
   show TrP 91 _ _ _ _
   refine tH [(0, _), (1, _), (2, _), (6, _), (7, _), (9, _), (10, _), (11, _), (12, _), (13, _), (14, _), (28, _), (34, _)] ?_
   refine Tri.seq ?_
   refine tR ?_
   refine sO rfl rfl (oW (at' (.ptr (some (_, 0)))) rfl rfl ?_)
   refine sO rfl rfl (oLoad (x := .at _) rfl gG rfl ?_)
   refine sO rfl rfl (oE rfl (fun h65 => ?_) (fun h65 => absurd (hB h34).1 h65))
   refine sV rfl rfl rfl ?_
   refine sO rfl rfl (oW (at' (.ptr (some (_, 1)))) rfl rfl ?_)
   refine sO rfl rfl (oLoad (x := .at _) rfl gG rfl ?_)
   refine sO rfl rfl (oE rfl (fun h69 => ?_) (fun h69 => absurd (hB h34).2.1 h69))
   iterate 2 refine sV rfl rfl rfl ?_
   refine sO rfl rfl (oW (at' (.ptr (some (_, 0)))) rfl rfl ?_)
   refine sO rfl rfl (oLoad (x := .at _) rfl gG rfl ?_)
   refine sO rfl rfl (oE rfl (fun h74 => ?_) (fun h74 => absurd (hB h34).2.2.1 h74))
   iterate 2 refine sV rfl rfl rfl ?_
   refine sO rfl rfl (oW (at' (.ptr (some (_, 3)))) rfl rfl ?_)
   refine sO rfl rfl (oLoad (x := .at _) rfl gG rfl ?_)
   refine sV rfl rfl rfl ?_
   refine sO rfl rfl (oE rfl (fun h80 => ?_) (fun h80 => absurd (hB h34).2.2.2 h80))
   iterate 2 refine sV rfl rfl rfl ?_
   refine sO rfl rfl (oW (at' (.ptr (some (_, 1)))) rfl rfl ?_)
   refine sO rfl rfl (oLoad (x := .at _) rfl gG rfl ?_)
   refine sV rfl rfl rfl ?_
   refine sO rfl rfl (oE rfl (fun h86 => ?_) (fun h86 => absurd hC h86))
   iterate 2 refine sV rfl rfl rfl ?_
   refine sO rfl rfl (oF rfl (fnOk_of Try.func3 (by decide) rfl) (iexamples_ok _) ?_)
   iterate 2 refine sV rfl rfl rfl ?_
   show TrP 91 _ _ _ _
   refine tH [(0, _), (1, _), (2, _), (6, _), (7, _), (9, _), (10, _), (11, _), (12, _), (13, _), (14, _), (28, _), (34, _)] ?_
   refine Tri.ret ?_
   refine ⟨trivial, _, rfl, ?_⟩
   exact ⟨rfl, trivial⟩
 ·
  refine Tri.seq ?_
  refine tR ?_
  refine sV rfl rfl rfl ?_
  show TrP 91 _ _ _ _
  refine tH [(0, _), (1, _), (2, _), (6, _)] ?_
  refine Tri.seq ?_
  refine tR ?_
  refine sO rfl rfl (oC rfl (fnOk_of Try.func12 (by decide) rfl) (pd_ok _) ?_)
  rintro u G2 ⟨cs2, rfl, hL2, hk2⟩
  have hLP2 := hL2
  obtain ⟨qa2, qf2, rfl, _, _⟩ := hLP2
  iterate 3 refine sV rfl rfl rfl ?_
  refine sO rfl rfl (oAlloc (cs := [.slice none 0, .slice none 0]) rfl rfl ?_)
  refine sO rfl rfl (oAlloc (cs := [.int .i64 0, .int .i64 0]) rfl rfl ?_)
  refine sO rfl rfl (oStore (n := 2) (cs' := [_, _]) rfl rfl rfl gG rfl (Nat.le_of_ble_eq_true rfl) rfl rfl ?_)
  refine sO rfl rfl (oStore (n := 2) (cs' := [_, _]) rfl rfl rfl gG rfl (Nat.le_of_ble_eq_true rfl) rfl rfl ?_)
  show TrP 91 _ _ _ _
  refine tH [(0, _), (1, _), (2, _), (6, _), (7, _)] ?_
  refine Tri.seq ?_
  refine tR ?_
  iterate 2 refine sV rfl rfl rfl ?_
  refine sO rfl rfl (oBS2 rfl rfl rfl rfl rfl ?_)
  refine sV rfl rfl rfl ?_
  show TrP 91 _ _ _ _
  refine tH [(0, _), (1, _), (2, _), (6, _), (7, _), (9, _)] ?_
  refine Tri.seq ?_
  refine Tri.drawn2 mixed eqsOk (eqs := eqs) ⟨[0, 0, 3, 0, 0, 31, 0, 0, 255, 511], [0, 0, 0, 0, 0, 0, 0, 1, 0, 0], 2, [0, 1, 3, 4, 6, 7, 2, 5, 8, 9]⟩ (by decide +kernel) rfl ?_
  refine dR0 rfl rfl rfl rfl (op_load_at (x := .agg [_, _]) rfl gG rfl) ?_
  refine dL rfl rfl rfl rfl (oV rfl ?_)
  refine dR0 rfl rfl rfl rfl (op_load_at (x := .agg [_, _]) rfl gG rfl) ?_
  refine dL rfl rfl rfl rfl (oV rfl ?_)
  refine dM rfl rfl rfl rfl (obj := .cells 34 1 [.int .i64 0, .int .i64 0, .slice none 0, .int .i64 0]) (v := at' (.ptr (some (G2.n + 3, 0)))) rfl ?_
  refine dM rfl rfl rfl rfl (obj := .cells 34 1 [.int .i64 0, .int .i64 0, .slice none 0, .int .i64 0]) (v := at' (.ptr (some (G2.n + 4, 0)))) rfl ?_
  refine dCm (Heap.push (Heap.push _ .dead) .dead) (.keep rfl (.keep rfl .nil)) (.keep rfl (.drop rfl .nil)) rfl rfl rfl rfl rfl (oC rfl (fnOk_of Try.func14 (by decide) rfl) (RunO pdP _ [102] [n0, n1] (some (_, 0)) _ _ (hL2.kp kZ) pd_low (row2n gG) of hF) ?_)
  rintro u G3 ⟨r1, rfl, hr1, hrid1, hol1, hk3⟩
  have hK3 : Kp [] G2 G3 := (show Kp [] G2 _ from kZ).trans0 hk3
  have hcp3 : G3.get G2.n = some (.cells 25 1 [.slice qa2 pdP.arrays.length, .slice qf2 pdP.funcs.length]) := hk3.get gG rfl
  have hca3 : G3.get (G2.n + 2) = some (.cells 2 2 [.int .i64 n0, .int .i64 n1]) := hk3.get gG rfl
  have hn3 := hk3.n
  (try simp only [Heap.n_push, Heap.n_set] at hn3)
  refine ⟨⟨.inr (⟨_, rfl, (by dsimp only; rw [matP_cons_false rfl, matP_cons_false rfl]; exact op_load_at (x := .agg [.slice qa2 pdP.arrays.length, .slice qf2 pdP.funcs.length]) rfl hcp3 rfl)⟩), .inl rfl, trivial⟩, ?_⟩
  refine dCm G3 (.keep rfl (.keep rfl .nil)) (.drop rfl .nil) rfl rfl rfl rfl rfl (oC rfl (fnOk_of Try.func14 (by decide) rfl) (RunO pdP _ [103] [n0, n1] (some (_, 0)) _ _ (hL2.kp (show Kp [] G2 _ from kH)) pd_low (row2n gG) og hG) ?_)
  rintro u G4 ⟨r2, rfl, hr2, hrid2, hol2, hk4⟩
  have hK4 : Kp [] G2 G4 := hK3.trans0 hk4
  have hcp4 : G4.get G2.n = some (.cells 25 1 [.slice qa2 pdP.arrays.length, .slice qf2 pdP.funcs.length]) := hk4.get hcp3 rfl
  have hca4 : G4.get (G2.n + 2) = some (.cells 2 2 [.int .i64 n0, .int .i64 n1]) := hk4.get hca3 rfl
  have hn4 := hk4.n
  (try simp only [Heap.n_push, Heap.n_set] at hn4)
  refine ⟨⟨.inl rfl, trivial⟩, ?_⟩
  refine dCm (Heap.set (Heap.set G4 (_ + 0) _) (_ + 1) _) (.drop rfl (.drop rfl .nil)) .nil rfl rfl rfl rfl rfl (oStore (n := 4) (cs' := [.int .i64 of.kind, .int .i64 of.code, .slice r1 of.out.length, .int .i64 of.value]) rfl rfl rfl gG rfl (Nat.le_of_ble_eq_true rfl) rfl rfl ?_)
  refine ⟨trivial, ?_⟩
  refine dC0 .nil rfl rfl rfl rfl (oStore (n := 4) (cs' := [.int .i64 og.kind, .int .i64 og.code, .slice r2 og.out.length, .int .i64 og.value]) rfl rfl rfl gG rfl (Nat.le_of_ble_eq_true rfl) rfl rfl ?_)
  refine ⟨trivial, ?_⟩
  refine dE0 ?_
  show TrP 91 _ _ _ _
  refine tH [(0, _), (1, _), (2, _), (6, _), (7, _), (9, _), (10, _), (11, _)] ?_
  refine Tri.seq ?_
  refine tR ?_
  iterate 2 refine sV rfl rfl rfl ?_
  show TrP 91 _ _ _ _
  refine tH [(0, _), (1, _), (2, _), (6, _), (7, _), (9, _), (10, _), (11, _), (12, _), (13, _)] ?_
  refine Tri.seq ?_
  refine Tri.seq ?_
  refine tR ?_
  refine sV rfl rfl rfl ?_
  show TrP 91 _ _ _ _
  refine tH [(0, _), (1, _), (2, _), (6, _), (7, _), (9, _), (10, _), (11, _), (12, _), (13, _), (28, _)] ?_
  refine tT rfl ?_
  refine tR ?_
  iterate 2 refine sV rfl rfl rfl ?_
  show TrP 91 _ _ _ _
  refine tH [(0, _), (1, _), (2, _), (6, _), (7, _), (9, _), (10, _), (11, _), (12, _), (13, _), (28, _)] ?_
  refine Tri.seq ?_
  refine tR ?_
  refine sO rfl rfl (oLoad (x := .agg [_, _]) rfl gG rfl ?_)
  iterate 2 refine sV rfl rfl rfl ?_
  refine sO rfl rfl (oC rfl (fnOk_of Try.func14 (by decide) rfl) (RunO pdP _ [107] [n0, n1] (some (_, 0)) _ _ (hL2.kp (show Kp [] G2 _ from kH)) pd_low (row2n gG) ok hKk) ?_)
  rintro u G5 ⟨r3, rfl, hr3, hrid3, hol3, hk5⟩
  have hc10 : G5.get (G2.n + 3) = some (.cells 34 1 [.int .i64 of.kind, .int .i64 of.code, .slice r1 of.out.length, .int .i64 of.value]) := hk5.get gG rfl
  have hc11 : G5.get (G2.n + 4) = some (.cells 34 1 [.int .i64 og.kind, .int .i64 og.code, .slice r2 og.out.length, .int .i64 og.value]) := hk5.get gG rfl
  have hl10 := Heap.get_lt hc10
  have hl11 := Heap.get_lt hc11
  refine sO rfl rfl (oAlloc (cs := [.int .i64 0, .int .i64 0, .slice none 0, .int .i64 0]) rfl rfl ?_)
  refine sO rfl rfl (oStore (n := 4) (cs' := [_, _, _, _]) rfl rfl rfl gG rfl (Nat.le_of_ble_eq_true rfl) rfl rfl ?_)
  show TrP 91 _ _ _ _
  refine tH [(0, _), (1, _), (2, _), (6, _), (7, _), (9, _), (10, _), (11, _), (12, _), (13, _), (14, _), (28, _)] ?_
  refine Tri.seq ?_
  refine Tri.seq ?_
  refine tR ?_
  refine sV rfl rfl rfl ?_
  refine sO rfl rfl (oNE rfl (fun h34 => ?_) (fun h34 => ?_))
  ·
   show TrP 91 _ _ _ _
   refine tH [(0, _), (1, _), (2, _), (6, _), (7, _), (9, _), (10, _), (11, _), (12, _), (13, _), (14, _), (28, _), (34, _)] ?_
   refine tT rfl ?_
   refine Tri.seq ?_
   refine tR ?_
   refine sO rfl rfl (oW (at' (.ptr (some (_, 0)))) rfl rfl ?_)
   refine sO rfl rfl (oLoad (x := .at _) rfl gG rfl ?_)
   refine sO rfl rfl (oE rfl (fun h37 => ?_) (fun h37 => absurd (hA h34).1 h37))
   refine sV rfl rfl rfl ?_
   refine sO rfl rfl (oW (at' (.ptr (some (_, 3)))) rfl rfl ?_)
   refine sO rfl rfl (oLoad (x := .at _) rfl gG rfl ?_)
   refine sV rfl rfl rfl ?_
   refine sO rfl rfl (oE rfl (fun h42 => ?_) (fun h42 => absurd (hA h34).2.1 h42))
   iterate 2 refine sV rfl rfl rfl ?_
   refine sO rfl rfl (oW (at' (.ptr (some (_, 0)))) rfl rfl ?_)
   refine sO rfl rfl (oLoad (x := .at _) rfl gG rfl ?_)
   refine sO rfl rfl (oE rfl (fun h47 => ?_) (fun h47 => absurd (hA h34).2.2.1 h47))
   iterate 2 refine sV rfl rfl rfl ?_
   refine sO rfl rfl (oW (at' (.ptr (some (_, 1)))) rfl rfl ?_)
   refine sO rfl rfl (oLoad (x := .at _) rfl gG rfl ?_)
   refine sO rfl rfl (oE rfl (fun h52 => ?_) (fun h52 => absurd (hA h34).2.2.2 h52))
   iterate 2 refine sV rfl rfl rfl ?_
   refine sO rfl rfl (oW (at' (.ptr (some (_, 1)))) rfl rfl ?_)
   refine sO rfl rfl (oLoad (x := .at _) rfl gG rfl ?_)
   refine sV rfl rfl rfl ?_
   refine sO rfl rfl (oE rfl (fun h58 => ?_) (fun h58 => absurd hD h58))
   iterate 2 refine sV rfl rfl rfl ?_
   refine sO rfl rfl (oF rfl (fnOk_of Try.func3 (by decide) rfl) (iexamples_ok _) ?_)
   iterate 2 refine sV rfl rfl rfl ?_
   show TrP 91 _ _ _ _
   refine tH [(0, _), (1, _), (2, _), (6, _), (7, _), (9, _), (10, _), (11, _), (12, _), (13, _), (14, _), (28, _), (34, _)] ?_
   refine Tri.ret ?_
   refine ⟨trivial, _, rfl, ?_⟩
   exact ⟨rfl, trivial⟩
  ·
   show TrP 91 _ _ _ _
   refine tH [(0, _), (1, _), (2, _), (6, _), (7, _), (9, _), (10, _), (11, _), (12, _), (13, _), (14, _), (28, _), (34, _)] ?_
   refine tF rfl ?_
   refine Tri.skip ?_
   show TrP 91 _ _ _ _
   refine tH [(0, _), (1, _), (2, _), (6, _), (7, _), (9, _), (10, _), (11, _), (12, _), (13, _), (14, _), (28, _), (34, _)] ?_
   refine Tri.seq ?_
   refine tR ?_
   refine sO rfl rfl (oW (at' (.ptr (some (_, 0)))) rfl rfl ?_)
   refine sO rfl rfl (oLoad (x := .at _) rfl gG rfl ?_)
   refine sO rfl rfl (oE rfl (fun h65 => ?_) (fun h65 => absurd (hB h34).1 h65))
   refine sV rfl rfl rfl ?_
   refine sO rfl rfl (oW (at' (.ptr (some (_, 1)))) rfl rfl ?_)
   refine sO rfl rfl (oLoad (x := .at _) rfl gG rfl ?_)
   refine sO rfl rfl (oE rfl (fun h69 => ?_) (fun h69 => absurd (hB h34).2.1 h69))
   iterate 2 refine sV rfl rfl rfl ?_
   refine sO rfl rfl (oW (at' (.ptr (some (_, 0)))) rfl rfl ?_)
   refine sO rfl rfl (oLoad (x := .at _) rfl gG rfl ?_)
   refine sO rfl rfl (oE rfl (fun h74 => ?_) (fun h74 => absurd (hB h34).2.2.1 h74))
   iterate 2 refine sV rfl rfl rfl ?_
   refine sO rfl rfl (oW (at' (.ptr (some (_, 3)))) rfl rfl ?_)
   refine sO rfl rfl (oLoad (x := .at _) rfl gG rfl ?_)
   refine sV rfl rfl rfl ?_
   refine sO rfl rfl (oE rfl (fun h80 => ?_) (fun h80 => absurd (hB h34).2.2.2 h80))
   iterate 2 refine sV rfl rfl rfl ?_
   refine sO rfl rfl (oW (at' (.ptr (some (_, 1)))) rfl rfl ?_)
   refine sO rfl rfl (oLoad (x := .at _) rfl gG rfl ?_)
   refine sV rfl rfl rfl ?_
   refine sO rfl rfl (oE rfl (fun h86 => ?_) (fun h86 => absurd hD h86))
   iterate 2 refine sV rfl rfl rfl ?_
   refine sO rfl rfl (oF rfl (fnOk_of Try.func3 (by decide) rfl) (iexamples_ok _) ?_)
   iterate 2 refine sV rfl rfl rfl ?_
   show TrP 91 _ _ _ _
   refine tH [(0, _), (1, _), (2, _), (6, _), (7, _), (9, _), (10, _), (11, _), (12, _), (13, _), (14, _), (28, _), (34, _)] ?_
   refine Tri.ret ?_
   refine ⟨trivial, _, rfl, ?_⟩
   exact ⟨rfl, trivial⟩
end Go.Proofs.Ytnhobbjbgljpnaa
