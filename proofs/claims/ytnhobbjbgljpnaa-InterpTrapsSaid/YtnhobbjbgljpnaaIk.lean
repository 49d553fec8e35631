/-
  THE WALKS of fullinglaw6.InterpFuelMonotonic and InterpSwappedFunctions (printed by wip/tools/walk.py from wip/specs/intH.py). Written in this session.
-/
import Derived.Test.YtnhobbjbgljpnaaIi
import Derived.Test.YtnhobbjbgljpnaaIj
import Derived.Test.YtnhobbjbgljpnaaIx
namespace Go.Proofs.Ytnhobbjbgljpnaa
open Go.Ea
set_option maxRecDepth 100000
set_option linter.unusedVariables false
set_option linter.unusedSimpArgs false

theorem run_len (p : Pr) (nm : List UInt8) (args : List Int) (fuel : Int) : (runS p nm args fuel).out.length ≤ 201000 := by
  unfold runS
  split
  · exact Nat.zero_le _
  · rename_i h
    have hv := valid_of (p := p) (by
      by_cases e : chkS p = 0
      · exact e
      · exact absurd (.inl e) h)
    cases hg : fnOf p nm with
    | none => exact Nat.zero_le _
    | some g =>
      simp only []
      split
      · exact Nat.zero_le _
      · have ho : (ocS p g args fuel.toNat).out = (endS p g args fuel.toNat).out := by unfold ocS; (repeat' split) <;> rfl
        rw [ho]
        have hb : ∀ t g, fnOf p t = some g → nStl g.body ≤ 200 := fun t g ht => (hv.ok g (mem_of_fnOf ht).1).2.2.2.1
        have := exL_pot (M := 200) hb g.body ⟨⟨fuel.toNat, 0, 0⟩, arr0 p.arrays, bind g.params args, []⟩ (hb _ _ hg)
        have h2 := hb _ _ hg
        have h3 : fuel.toNat ≤ 1000 := by omega
        simp only [List.length_nil] at this
        show (exL (fnOf p) g.body ⟨⟨fuel.toNat, 0, 0⟩, arr0 p.arrays, bind g.params args, []⟩).out.length ≤ 201000
        omega
/-- Run, its outcome by name. -/
theorem RunO (p : Pr) (cs : List AT) (nm : List UInt8) (args : List Int) (q : Option (Nat × Nat)) (fuel : Int) (H : Heap) (hL : LPr H p cs) (hlow : LowP p) (hq : RowR H numC 1 args q) (o : OC) (ho : runS p nm args fuel = o) :
    Sim Try.prog 14 [.one (.agg cs), at' (.str nm), at' (.slice q args.length), at' (.int .i64 fuel)] H (fun u G => ∃ r, u = .one (.agg [.int .i64 o.kind, .int .i64 o.code, .slice r o.out.length, .int .i64 o.value]) ∧ RowR G numC 1 o.out r ∧ (∀ p, r = some p → H.n ≤ p.1 ∧ p.1 < G.n) ∧ o.out.length ≤ 201000 ∧ Kp [] H G) :=
  (Run_ok p cs nm args q fuel H hL hlow hq).mono fun u G ⟨a, h1, h2, h3⟩ => by
    rw [ho] at h1 h2
    obtain ⟨r, rfl, hr⟩ : ∃ r, a = .slice r o.out.length ∧ RowR G numC 1 o.out r := RowA.r (f := numC) (xs := o.out) (by rw [← numsC_fm]; exact h2) (fun _ => rfl)
    refine ⟨r, h1, hr, fun p hp => ?_, by rw [← ho]; exact run_len _ _ _ _, h3⟩
    subst hp
    obtain ⟨i, f⟩ := p
    exact h2.rid i (by simp [rid])
section
variable {b1 b2 : List Stm} {v1 v2 : Exp} {la lb : Nat}
abbrev prF (la lb : Nat) (b1 b2 : List Stm) (v1 v2 : Exp) : Pr := prg la lb (fnF b1 v1) (fnG b2 v2)
theorem Read.lowF (R : Read b1 b2 v1 v2 la lb) : LowP (prF la lb b1 b2 v1 v2) := R.low0 (ls := ijL) (nm := [102]) (nm2 := [103]) (by decide) (by have := GX.ht4 R.hv1 (by decide); omega)
theorem Read.run (R : Read b1 b2 v1 v2 la lb) (args : List Int) (f : Nat) (hf : f ≤ 1000) (hl : args.length = 2) : runS (prF la lb b1 b2 v1 v2) [102] args ((f : Nat) : Int) = ocS (prF la lb b1 b2 v1 v2) (fnF b1 v1) args f := by
  have h0 := R.c12
  have hfn : fnOf (prF la lb b1 b2 v1 v2) [102] = some (fnF b1 v1) := rfl
  unfold runS
  rw [if_neg (by rw [h0]; omega), hfn]
  simp only []
  rw [if_neg (by rw [hl]; exact fun h => h rfl), Int.toNat_natCast]
theorem mono_law (R : Read b1 b2 v1 v2 la lb) (args : List Int) (f k : Nat) (hf : f + k ≤ 1000) (hl : args.length = 2) {o1 o2 : OC} (h1 : runS (prF la lb b1 b2 v1 v2) [102] args ((f : Nat) : Int) = o1) (h2 : runS (prF la lb b1 b2 v1 v2) [102] args ((f + k : Nat) : Int) = o2) :
    (o1.kind ≠ 3 → o1 = o2 ∧ (o1.kind = 1 ∨ o1.kind = 2)) ∧ (o1.kind = 3 → o1.out <+: o2.out ∧ o1.code = 0 ∧ o1.value = 0) := by
  rw [R.run args f (by omega) hl] at h1
  rw [R.run args (f + k) hf hl] at h2
  have := oc_more (prF la lb b1 b2 v1 v2) (fnF b1 v1) args f k
  rw [h1, h2] at this
  exact this
end
theorem row2n {H : Heap} {id : Nat} {T : TypeId} {k : Nat} {a b : Int} (h : H.get id = some (.cells T k [.int .i64 a, .int .i64 b])) : RowR H numC 1 [a, b] (some (id, 0)) := ⟨fun e => (by cases e), fun i o e => .inr (by cases e; exact ⟨T, k, _, h, by simp, rfl⟩)⟩
theorem row1n {H : Heap} {id : Nat} {T : TypeId} {k : Nat} {a b : Int} (h : H.get id = some (.cells T k [.int .i64 a, .int .i64 b])) : RowR H numC 1 [a] (some (id, 0)) := ⟨fun e => (by cases e), fun i o e => .inr (by cases e; exact ⟨T, k, _, h, by simp, rfl⟩)⟩

set_option maxHeartbeats 4000000 in
theorem mono_ok (l : List Int) (r0 : Nat × Nat) (n0 n1 n2 n3 n4 : Int) (H : Heap) (hl : RowR H (fun x => [AT.int .i64 x]) 1 l (some r0)) : Sim Try.prog 4 [at' (.slice (some r0) l.length), at' (.int .i64 n0), at' (.int .i64 n1), at' (.int .i64 n2), at' (.int .i64 n3), at' (.int .i64 n4)] H (fun u G => u = at' (.bool true) ∧ True) := by
 have hpf := pk_lt n3 12 (by omega)
 have hpm := pk_lt n4 9 (by omega)
 refine Sim.of_tri Try.func4 rfl ?_
 show TrP 93 _ _ _ _
 refine Tri.seq ?_
 refine tR ?_
 refine sV rfl rfl rfl ?_
 show TrP 93 _ _ _ _
 refine tH [(0, _), (1, _), (2, _), (3, _), (4, _), (5, _), (12, _)] ?_
 refine Tri.seq ?_
 refine tR ?_
 refine sV rfl rfl rfl ?_
 refine sO rfl rfl (oC rfl (fnOk_of Try.func15 (by decide) rfl) (Program_ok l r0 _ hl) ?_)
 rintro u G1 ⟨ida, idf, b1, b2, v1, v2, la, lb, p1, l1, q1, p2, l2, q2, c1, c2, rfl, hLd, hRd, hia, hif, hk1⟩
 have hLP := hLd.prog
 refine sO rfl rfl (oAlloc (cs := [.slice none 0, .slice none 0]) rfl rfl ?_)
 refine sO rfl rfl (oStore (n := 2) (cs' := [_, _]) rfl rfl rfl gG rfl (Nat.le_of_ble_eq_true rfl) rfl rfl ?_)
 show TrP 93 _ _ _ _
 refine tH [(0, _), (1, _), (2, _), (3, _), (4, _), (5, _), (12, _), (13, _)] ?_
 refine Tri.seq ?_
 refine tR ?_
 iterate 3 refine sV rfl rfl rfl ?_
 refine sO rfl rfl (oC rfl (fnOk_of Try.func16 (by decide) rfl) (Args_ok _ _ _ _) ?_)
 rintro u G ⟨w1, w2, rfl, rfl⟩
 refine sV rfl rfl rfl ?_
 show TrP 93 _ _ _ _
 refine tH [(0, _), (1, _), (2, _), (3, _), (4, _), (5, _), (12, _), (13, _), (14, _)] ?_
 refine Tri.seq ?_
 refine tR ?_
 refine sV rfl rfl rfl ?_
 refine sO rfl rfl (oF rfl (fnOk_of Try.func17 (by decide) rfl) (Fuel_ok _ _) ?_)
 refine sV rfl rfl rfl ?_
 show TrP 93 _ _ _ _
 refine tH [(0, _), (1, _), (2, _), (3, _), (4, _), (5, _), (12, _), (13, _), (14, _), (15, _)] ?_
 refine Tri.seq ?_
 refine tR ?_
 obtain ⟨o1, hO1⟩ : ∃ o, runS (prF la lb b1 b2 v1 v2) [102] [w1, w2] ((pk n3 12 : Nat) : Int) = o := ⟨_, rfl⟩
 refine sO rfl rfl (oLoad (x := .agg [_, _]) rfl gG rfl ?_)
 iterate 2 refine sV rfl rfl rfl ?_
 refine sO rfl rfl (oC rfl (fnOk_of Try.func14 (by decide) rfl) (RunO (prF la lb b1 b2 v1 v2) _ [102] [w1, w2] (some (_, 0)) _ _ (hLP.kp kZ) hRd.lowF (row2n gG) o1 hO1) ?_)
 rintro u G3 ⟨r1, rfl, hr1, hrid1, hol1, hk3⟩
 have hcp : G3.get G1.n = some (.cells 25 1 [.slice (some (ida, 0)) 2, .slice (some (idf, 0)) 2]) := hk3.get gG rfl
 have hca : G3.get (G1.n + 1) = some (.cells 2 2 [.int .i64 w1, .int .i64 w2]) := hk3.get gG rfl
 have hcl := Heap.get_lt hcp
 have hcl2 := Heap.get_lt hca
 have hrlt1 : ∀ p, r1 = some p → p.1 < G3.n := fun p hp => (hrid1 p hp).2
 refine sO rfl rfl (oAlloc (cs := [.int .i64 0, .int .i64 0, .slice none 0, .int .i64 0]) rfl rfl ?_)
 refine sO rfl rfl (oStore (n := 4) (cs' := [_, _, _, _]) rfl rfl rfl gG rfl (Nat.le_of_ble_eq_true rfl) rfl rfl ?_)
 show TrP 93 _ _ _ _
 refine tH [(0, _), (1, _), (2, _), (3, _), (4, _), (5, _), (12, _), (13, _), (14, _), (15, _), (16, _)] ?_
 refine Tri.seq ?_
 refine Tri.drawn1 mixed eqsOk (eqs := eqs) ⟨[0, 0, 0, 0, 8, 28, 63, 0, 255], [0, 0, 0, 0, 0, 0, 0, 0, 0], 1, [0, 1, 2, 3, 7, 4, 5, 6, 8]⟩ (by decide +kernel) rfl ?_
 obtain ⟨o2, hO2⟩ : ∃ o, runS (prF la lb b1 b2 v1 v2) [102] [w1, w2] ((pk n3 12 + pk n4 9 : Nat) : Int) = o := ⟨_, rfl⟩
 obtain ⟨hm1, hm2⟩ := mono_law hRd [w1, w2] (pk n3 12) (pk n4 9) (by omega) rfl hO1 hO2
 refine dR0 rfl rfl rfl rfl (op_load_at (x := .agg [_, _]) rfl gG rfl) ?_
 refine dL rfl rfl rfl rfl (oV rfl ?_)
 refine dL rfl rfl rfl rfl (oV rfl ?_)
 refine dL rfl rfl rfl rfl (oV rfl ?_)
 refine dM rfl rfl rfl rfl (obj := .cells 34 1 [.int .i64 0, .int .i64 0, .slice none 0, .int .i64 0]) (v := at' (.ptr (some (G3.n + 1, 0)))) rfl ?_
 refine dCm (Heap.push _ .dead) (.keep rfl .nil) (.keep rfl .nil) rfl rfl rfl rfl rfl (oF rfl (fnOk_of Try.func18 (by decide) rfl) (Pick_ok _ 9 _ (by omega) (by omega)) ?_)
 refine ⟨⟨.inr (⟨_, rfl, (by dsimp only; rw [matP_cons_false rfl]; exact op_load_at (x := .agg [.slice (some (ida, 0)) 2, .slice (some (idf, 0)) 2]) rfl (show (Heap.push ((G3.push (.cells 34 1 [.int .i64 0, .int .i64 0, .slice none 0, .int .i64 0])).set G3.n (.cells 34 1 [.int .i64 o1.kind, .int .i64 o1.code, .slice r1 o1.out.length, .int .i64 o1.value])) .dead).get G1.n = some (.cells 25 1 [.slice (some (ida, 0)) 2, .slice (some (idf, 0)) 2]) from gG) rfl)⟩), trivial⟩, ?_⟩
 refine dL rfl rfl rfl rfl (oAdd rfl (by omega) ?_)
 refine dCm (Heap.push _ .dead) (.keep rfl .nil) (.drop rfl .nil) rfl rfl rfl rfl rfl (oC rfl (fnOk_of Try.func14 (by decide) rfl) (RunO (prF la lb b1 b2 v1 v2) _ [102] [w1, w2] (some (_, 0)) _ _ (hLP.kp ((show Kp [] G1 G3 from (show Kp [] G1 _ from kZ).trans0 hk3).trans0 kZ)) hRd.lowF (row2n gG) o2 hO2) ?_)
 rintro u G5 ⟨r2, rfl, hr2, hrid2, hol2, hk5⟩
 have hcx : G5.get G3.n = some (.cells 34 1 [.int .i64 o1.kind, .int .i64 o1.code, .slice r1 o1.out.length, .int .i64 o1.value]) := hk5.get gG rfl
 have hcl3 := Heap.get_lt hcx
 have hn5 := hk5.n
 (try simp only [Heap.n_push, Heap.n_set] at hn5)
 have hr1 : RowR G5 numC 1 o1.out r1 := hr1.kp ((show Kp [] G3 _ from kZ).trans0 hk5)
 have hro2 : ∀ p, r2 = some p → p.1 ∉ [G3.n + 1] := fun p hp hm => by
   have := (hrid2 p hp).1
   simp only [List.mem_cons, List.not_mem_nil, or_false, Heap.n_push, Heap.n_set] at this hm
   omega
 have hro1 : ∀ p, r1 = some p → p.1 ∉ [G3.n + 1] := fun p hp hm => by
   have := hrlt1 p hp
   simp only [List.mem_cons, List.not_mem_nil, or_false] at hm
   omega
 refine ⟨⟨.inl rfl, trivial⟩, ?_⟩
 refine dCm (Heap.set G5 (_ + 0) _) (.drop rfl .nil) .nil rfl rfl rfl rfl rfl (oStore (n := 4) (cs' := [_, _, _, _]) rfl rfl rfl gG rfl (Nat.le_of_ble_eq_true rfl) rfl rfl ?_)
 refine ⟨trivial, ?_⟩
 refine dE0 ?_
 show TrP 93 _ _ _ _
 refine tH [(0, _), (1, _), (2, _), (3, _), (4, _), (5, _), (12, _), (13, _), (14, _), (15, _), (16, _), (17, _)] ?_
 refine Tri.seq ?_
 refine Tri.seq ?_
 refine tR ?_
 refine sO rfl rfl (oW (at' (.ptr (some (_, 0)))) rfl rfl ?_)
 obtain ⟨idx, hidx⟩ : ∃ i, i = G3.n := ⟨_, rfl⟩
 obtain ⟨idy, hidy⟩ : ∃ i, i = G3.n + 1 := ⟨_, rfl⟩
 refine sO rfl rfl (oLoad (x := .at _) rfl gG rfl ?_)
 refine sO rfl rfl (oNE rfl (fun h40 => ?_) (fun h40 => ?_))
 ·
  show TrP 93 _ _ _ _
  refine tH [(0, _), (1, _), (2, _), (3, _), (4, _), (5, _), (12, _), (13, _), (14, _), (15, _), (16, _), (17, _), (40, _)] ?_
  refine tT rfl ?_
  refine Tri.seq ?_
  refine tR ?_
  refine sO rfl rfl (oLoad (x := .agg [_, _, _, _]) rfl gG rfl ?_)
  refine sO rfl rfl (oLoad (x := .agg [_, _, _, _]) rfl gG rfl ?_)
  refine sO rfl rfl (oFB rfl (fnOk_of Try.func13 (by decide) rfl) (Same_ok o1 o2 r1 r2 _ (hr1.kpo (own := [G3.n + 1]) kQ (fun p hp => hro1 p hp)) (hr2.kpo (own := [G3.n + 1]) kQ (fun p hp => hro2 p hp)) (by omega)) (fun h43 => ?_) (fun h43 => absurd (hm1 h40).1 (of_decide_eq_false h43)))
  refine sV rfl rfl rfl ?_
  refine sO rfl rfl (oW (at' (.ptr (some (_, 0)))) rfl rfl ?_)
  refine sO rfl rfl (oLoad (x := .at _) rfl gG rfl ?_)
  refine sO rfl rfl (oE rfl (fun h47 => ?_) (fun h47 => ?_))
  ·
   refine sV rfl rfl rfl ?_
   iterate 3 refine sN rfl rfl ?_
   iterate 3 refine sV rfl rfl rfl ?_
   refine sO rfl rfl (oF rfl (fnOk_of Try.func3 (by decide) rfl) (iexamples_ok _) ?_)
   iterate 2 refine sV rfl rfl rfl ?_
   show TrP 93 _ _ _ _
   refine tH [(0, _), (1, _), (2, _), (3, _), (4, _), (5, _), (12, _), (13, _), (14, _), (15, _), (16, _), (17, _), (40, _)] ?_
   refine Tri.ret ?_
   refine ⟨trivial, _, rfl, ?_⟩
   exact ⟨rfl, trivial⟩
  ·
   refine sV rfl rfl rfl ?_
   refine sO rfl rfl (oW (at' (.ptr (some (_, 0)))) rfl rfl ?_)
   refine sO rfl rfl (oLoad (x := .at _) rfl gG rfl ?_)
   refine sO rfl rfl (oE rfl (fun h51 => ?_) (fun h51 => absurd ((hm1 h40).2.resolve_left h47) h51))
   iterate 3 refine sV rfl rfl rfl ?_
   refine sO rfl rfl (oF rfl (fnOk_of Try.func3 (by decide) rfl) (iexamples_ok _) ?_)
   iterate 2 refine sV rfl rfl rfl ?_
   show TrP 93 _ _ _ _
   refine tH [(0, _), (1, _), (2, _), (3, _), (4, _), (5, _), (12, _), (13, _), (14, _), (15, _), (16, _), (17, _), (40, _)] ?_
   refine Tri.ret ?_
   refine ⟨trivial, _, rfl, ?_⟩
   exact ⟨rfl, trivial⟩
 ·
  show TrP 93 _ _ _ _
  refine tH [(0, _), (1, _), (2, _), (3, _), (4, _), (5, _), (12, _), (13, _), (14, _), (15, _), (16, _), (17, _), (40, _)] ?_
  refine tF rfl ?_
  refine Tri.skip ?_
  show TrP 93 _ _ _ _
  refine tH [(0, _), (1, _), (2, _), (3, _), (4, _), (5, _), (12, _), (13, _), (14, _), (15, _), (16, _), (17, _), (40, _)] ?_
  refine Tri.seq ?_
  refine Tri.seq ?_
  refine tR ?_
  refine sO rfl rfl (oW (at' (.ptr (some (_, 2)))) rfl rfl ?_)
  refine sO rfl rfl (oLoad (x := .at _) rfl gG rfl ?_)
  refine sV rfl rfl rfl ?_
  refine sO rfl rfl (oW (at' (.ptr (some (_, 2)))) rfl rfl ?_)
  refine sO rfl rfl (oLoad (x := .at _) rfl gG rfl ?_)
  refine sV rfl rfl rfl ?_
  refine sO rfl rfl (oP rfl (fun h63 => absurd h63 (by have := (hm2 h40).1.length_le; omega)) (fun h63 => ?_))
  refine sV rfl rfl rfl ?_
  refine sO rfl rfl (oW (at' (.ptr (some (_, 1)))) rfl rfl ?_)
  refine sO rfl rfl (oLoad (x := .at _) rfl gG rfl ?_)
  refine sO rfl rfl (oNE rfl (fun h67 => absurd (hm2 h40).2.1 h67) (fun h67 => ?_))
  iterate 2 refine sV rfl rfl rfl ?_
  refine sO rfl rfl (oW (at' (.ptr (some (_, 3)))) rfl rfl ?_)
  refine sO rfl rfl (oLoad (x := .at _) rfl gG rfl ?_)
  refine sO rfl rfl (oNE rfl (fun h72 => absurd (hm2 h40).2.2 h72) (fun h72 => ?_))
  refine sV rfl rfl rfl ?_
  show TrP 93 _ _ _ _
  refine tH [(0, _), (1, _), (2, _), (3, _), (4, _), (5, _), (12, _), (13, _), (14, _), (15, _), (16, _), (17, _), (40, _), (73, _)] ?_
  refine tF rfl ?_
  refine Tri.skip ?_
  show TrP 93 _ _ _ _
  refine tH [(0, _), (1, _), (2, _), (3, _), (4, _), (5, _), (12, _), (13, _), (14, _), (15, _), (16, _), (17, _), (40, _), (73, _)] ?_
  refine Tri.seq ?_
  refine Tri.seq ?_
  refine tR ?_
  refine sO rfl rfl (oW (at' (.ptr (some (_, 2)))) rfl rfl ?_)
  refine sO rfl rfl (oLoad (x := .at _) rfl gG rfl ?_)
  iterate 2 refine sV rfl rfl rfl ?_
  show TrP 93 _ _ _ _
  refine tH [(0, _), (1, _), (2, _), (3, _), (4, _), (5, _), (12, _), (13, _), (14, _), (15, _), (16, _), (17, _), (40, _), (73, _), (76, _), (77, _)] ?_
  refine Tri.block ?_
  refine Tri.loop (fun k' lk1 H1 => ∃ (j : Nat), k' = o1.out.length - j ∧ j ≤ o1.out.length ∧ H1.get idx = some (.cells 34 1 [.int .i64 o1.kind, .int .i64 o1.code, .slice r1 o1.out.length, .int .i64 o1.value]) ∧ H1.get idy = some (.cells 34 1 [.int .i64 o2.kind, .int .i64 o2.code, .slice r2 o2.out.length, .int .i64 o2.value]) ∧ RowR H1 numC 1 o1.out r1 ∧ RowR H1 numC 1 o2.out r2 ∧ Has lk1 [(16, at' (.ptr (some (idx, 0)))), (17, at' (.ptr (some (idy, 0)))), (76, at' (.int .i64 o1.out.length)), (77, at' (.int .i64 j))]) (o1.out.length) (⟨0, rfl, by omega, by rw [hidx]; exact gG, by rw [hidy]; exact gG, hr1.kpo (own := [G3.n + 1]) kQ (fun p hp => hro1 p hp), hr2.kpo (own := [G3.n + 1]) kQ (fun p hp => hro2 p hp), ⟨by rw [hidx]; rfl, by rw [hidy]; rfl, rfl, rfl, trivial⟩⟩) ?_
  rintro k' lk1 H1 ⟨j, hk, hj, hcx1, hcy1, hr1j, hr2j, hh⟩
  refine Tri.has hh ?_
  refine Tri.seq ?_
  refine tR ?_
  refine sO rfl rfl (oP rfl (fun h78 => ?_) (fun h78 => ?_))
  ·
   show TrP 93 _ _ _ _
   refine tH [(16, _), (17, _), (76, _), (77, _), (78, _)] ?_
   refine Tri.seq ?_
   refine tT rfl ?_
   refine Tri.skip ?_
   show TrP 93 _ _ _ _
   refine tH [(16, _), (17, _), (76, _), (77, _), (78, _)] ?_
   refine Tri.seq ?_
   refine Tri.block ?_
   refine Tri.seq ?_
   refine tR ?_
   iterate 2 refine sV rfl rfl rfl ?_
   show TrP 93 _ _ _ _
   refine tH [(16, _), (17, _), (18, _), (76, _), (77, _), (78, _)] ?_
   refine Tri.seq ?_
   refine Tri.drawn1 mixed eqsOk (eqs := eqs) ⟨[0, 1, 0, 7, 15, 0, 32, 0, 224, 480, 1023], [0, 0, 0, 0, 0, 0, 0, 0, 0, 0, 0], 1, [0, 1, 2, 3, 4, 5, 6, 7, 8, 9, 10]⟩ (by decide +kernel) rfl ?_
   refine dL rfl rfl rfl rfl (oW (at' (.ptr (some (_, 2)))) rfl rfl ?_)
   refine dR0 rfl rfl rfl rfl (op_load_at (x := .at _) rfl gG rfl) ?_
   refine dL rfl rfl rfl rfl (oV rfl ?_)
   obtain ⟨e1, he1⟩ : ∃ v, o1.out[j]? = some v := ⟨_, List.getElem?_eq_getElem (by omega)⟩
   have he2 : o2.out[j]? = some e1 := by
     obtain ⟨t, ht⟩ := (hm2 h40).1
     rw [← ht, List.getElem?_append_left (by omega)]; exact he1
   obtain ⟨id1, p1', T1, k1, cc1, hq1, hg1, hle1, hr1'⟩ := hr1j.at (fun _ => rfl) he1
   obtain ⟨id2, p2', T2, k2, cc2, hq2, hg2, hle2, hr2'⟩ := hr2j.at (fun _ => rfl) he2
   refine dL rfl rfl rfl rfl (oIA (z := 1) (i := j) (n := o1.out.length) (by rw [← hq1]; rfl) rfl rfl rfl (by omega) ?_)
   refine dR0 rfl rfl rfl rfl (op_load_at (x := .at (.int .i64 e1)) rfl gG (part_one hr1' rfl rfl rfl)) ?_
   refine dL rfl rfl rfl rfl (oW (at' (.ptr (some (_, 2)))) rfl rfl ?_)
   refine dR0 rfl rfl rfl rfl (op_load_at (x := .at _) rfl gG rfl) ?_
   refine dL rfl rfl rfl rfl (oV rfl ?_)
   refine dL rfl rfl rfl rfl (oIA (z := 1) (i := j) (n := o2.out.length) (by rw [← hq2]; rfl) rfl rfl rfl (by have := (List.getElem?_eq_some_iff.1 he2).1; omega) ?_)
   refine dR0 rfl rfl rfl rfl (op_load_at (x := .at (.int .i64 e1)) rfl gG (part_one hr2' rfl rfl rfl)) ?_
   refine dL rfl rfl rfl rfl (oNE rfl (fun h90 => absurd rfl h90) (fun h90 => ?_))
   refine dE0 ?_
   show TrP 93 _ _ _ _
   refine tH [(16, _), (17, _), (18, _), (76, _), (77, _), (78, _), (90, _)] ?_
   refine tF rfl ?_
   refine Tri.skip ?_
   show TrP 93 _ _ _ _
   refine tH [(16, _), (17, _), (18, _), (76, _), (77, _), (78, _), (90, _)] ?_
   refine tR ?_
   refine sO rfl rfl (oAdd (m := 1) rfl (by omega) ?_)
   refine sV rfl rfl rfl ?_
   exact ⟨o1.out.length - (j + 1), by omega, j + 1, rfl, by omega, gG, gG, hr1j.kp kZ, hr2j.kp kZ, ⟨rfl, rfl, rfl, rfl, trivial⟩⟩
  ·
   show TrP 93 _ _ _ _
   refine tH [(16, _), (17, _), (76, _), (77, _), (78, _)] ?_
   refine Tri.seq ?_
   refine tF rfl ?_
   refine Tri.exit ?_
   show TrP 93 _ _ _ _
   refine tH [(16, _), (17, _), (76, _), (77, _), (78, _)] ?_
   refine Tri.seq ?_
   refine tR ?_
   refine sO rfl rfl (oF rfl (fnOk_of Try.func3 (by decide) rfl) (iexamples_ok _) ?_)
   refine sV rfl rfl rfl ?_
   show TrP 93 _ _ _ _
   refine tH [(12, _), (16, _), (17, _), (76, _), (77, _), (78, _)] ?_
   refine Tri.ret ?_
   refine ⟨trivial, _, rfl, ?_⟩
   exact ⟨rfl, trivial⟩
set_option maxHeartbeats 4000000 in
theorem swap_ok (l : List Int) (r0 : Nat × Nat) (n0 n1 n2 n3 : Int) (H : Heap) (hl : RowR H (fun x => [AT.int .i64 x]) 1 l (some r0)) : Sim Try.prog 10 [at' (.slice (some r0) l.length), at' (.int .i64 n0), at' (.int .i64 n1), at' (.int .i64 n2), at' (.int .i64 n3)] H (fun u G => u = at' (.bool true) ∧ True) := by
 refine Sim.of_tri Try.func10 rfl ?_
 show TrP 49 _ _ _ _
 refine Tri.seq ?_
 refine tR ?_
 refine sV rfl rfl rfl ?_
 show TrP 49 _ _ _ _
 refine tH [(0, _), (1, _), (2, _), (3, _), (4, _), (10, _)] ?_
 refine Tri.seq ?_
 refine tR ?_
 refine sV rfl rfl rfl ?_
 refine sO rfl rfl (oC rfl (fnOk_of Try.func15 (by decide) rfl) (Program_ok l r0 _ hl) ?_)
 rintro u G1 ⟨ida, idf, b1, b2, v1, v2, la, lb, p1, l1, q1, p2, l2, q2, c1, c2, rfl, hLd, hRd, hia, hif, hk1⟩
 have hLP := hLd.prog
 refine sO rfl rfl (oAlloc (cs := [.slice none 0, .slice none 0]) rfl rfl ?_)
 refine sO rfl rfl (oStore (n := 2) (cs' := [_, _]) rfl rfl rfl gG rfl (Nat.le_of_ble_eq_true rfl) rfl rfl ?_)
 show TrP 49 _ _ _ _
 refine tH [(0, _), (1, _), (2, _), (3, _), (4, _), (10, _), (11, _)] ?_
 refine Tri.seq ?_
 refine tR ?_
 iterate 3 refine sV rfl rfl rfl ?_
 refine sO rfl rfl (oC rfl (fnOk_of Try.func16 (by decide) rfl) (Args_ok _ _ _ _) ?_)
 rintro u G ⟨w1, w2, rfl, rfl⟩
 refine sV rfl rfl rfl ?_
 show TrP 49 _ _ _ _
 refine tH [(0, _), (1, _), (2, _), (3, _), (4, _), (10, _), (11, _), (12, _)] ?_
 refine Tri.seq ?_
 refine tR ?_
 refine sV rfl rfl rfl ?_
 refine sO rfl rfl (oF rfl (fnOk_of Try.func17 (by decide) rfl) (Fuel_ok _ _) ?_)
 refine sV rfl rfl rfl ?_
 show TrP 49 _ _ _ _
 refine tH [(0, _), (1, _), (2, _), (3, _), (4, _), (10, _), (11, _), (12, _), (13, _)] ?_
 refine Tri.seq ?_
 refine Tri.drawn1 mixed eqsOk (eqs := eqs) ⟨[0, 0, 0, 7, 0, 31, 0, 0, 255, 511, 1023, 2047, 2047, 6143, 2047, 32767, 2047, 131071, 2047, 264191, 2047, 2097151, 4194303, 8388607, 16777215, 33554431, 67108863, 134217727], [0, 0, 0, 0, 0, 0, 0, 0, 0, 0, 0, 0, 0, 0, 0, 0, 0, 0, 0, 0, 0, 0, 0, 0, 0, 0, 0, 0], 1, [0, 1, 2, 4, 6, 7, 3, 5, 8, 9, 10, 11, 12, 13, 14, 16, 18, 19, 20, 15, 17, 21, 22, 23, 24, 25, 26, 27]⟩ (by decide +kernel) rfl ?_
 obtain ⟨o1, hO1⟩ : ∃ o, runS (prF la lb b1 b2 v1 v2) [102] [w1, w2] ((pk n3 12 : Nat) : Int) = o := ⟨_, rfl⟩
 obtain ⟨o3, hO3⟩ : ∃ o, runS (prF la lb b1 b2 v1 v2) [103] [w1] ((pk n3 12 : Nat) : Int) = o := ⟨_, rfl⟩
 refine dR0 rfl rfl rfl rfl (op_load_at (x := .agg [_, _]) rfl gG rfl) ?_
 refine dL rfl rfl rfl rfl (oV rfl ?_)
 refine dL rfl rfl rfl rfl (oV rfl ?_)
 refine dR0 rfl rfl rfl rfl (op_load_at (x := .agg [_, _]) rfl gG rfl) ?_
 refine dL rfl rfl rfl rfl (oV rfl ?_)
 refine dL rfl rfl rfl rfl (oV rfl ?_)
 refine dC0 (.keep rfl (.drop rfl .nil)) rfl rfl rfl rfl (oC rfl (fnOk_of Try.func14 (by decide) rfl) (RunO (prF la lb b1 b2 v1 v2) _ [102] [w1, w2] (some (_, 0)) _ _ (hLP.kp kZ) hRd.lowF (row2n gG) o1 hO1) ?_)
 rintro u G3 ⟨r1, rfl, hr1, hrid1, hol1, hk3⟩
 have hcp3 : G3.get G1.n = some (.cells 25 1 [.slice (some (ida, 0)) 2, .slice (some (idf, 0)) 2]) := hk3.get gG rfl
 have hca3 : G3.get (G1.n + 1) = some (.cells 2 2 [.int .i64 w1, .int .i64 w2]) := hk3.get gG rfl
 have hK3 : Kp [] G1 G3 := (show Kp [] G1 _ from kZ).trans0 hk3
 refine ⟨⟨.inr (⟨_, rfl, op_load_at (x := .agg [.slice (some (ida, 0)) 2, .slice (some (idf, 0)) 2]) rfl hcp3 rfl⟩), .inl rfl, trivial⟩, ?_⟩
 refine dC0 (.drop rfl .nil) rfl rfl rfl rfl (oC rfl (fnOk_of Try.func20 (by decide) rfl) (Swapped_ok (prF la lb b1 b2 v1 v2) _ _ (hLP.kp hK3) (by show 2 ≤ 1000; decide) (by show 2 ≤ 1000; decide)) ?_)
 rintro u G4 ⟨cs4, rfl, hL4, hk4⟩
 have hcp4 : G4.get G1.n = some (.cells 25 1 [.slice (some (ida, 0)) 2, .slice (some (idf, 0)) 2]) := hk4.get gG rfl
 have hca4 : G4.get (G1.n + 1) = some (.cells 2 2 [.int .i64 w1, .int .i64 w2]) := hk4.get gG rfl
 have hK4 : Kp [] G1 G4 := hK3.trans0 hk4
 refine ⟨⟨.inl rfl, trivial⟩, ?_⟩
 refine dC0 .nil rfl rfl rfl rfl (oC rfl (fnOk_of Try.func14 (by decide) rfl) (RunO (revP (prF la lb b1 b2 v1 v2)) cs4 [102] [w1, w2] (some (_, 0)) _ _ hL4 (low_rev hRd.lowF) (row2n hca4) o1 ((run_rev _ _ _ _).trans hO1)) ?_)
 rintro u G5 ⟨r2, rfl, hr2, hrid2, hol2, hk5⟩
 have hcp5 : G5.get G1.n = some (.cells 25 1 [.slice (some (ida, 0)) 2, .slice (some (idf, 0)) 2]) := hk5.get gG rfl
 have hca5 : G5.get (G1.n + 1) = some (.cells 2 2 [.int .i64 w1, .int .i64 w2]) := hk5.get gG rfl
 have hK5 : Kp [] G1 G5 := hK4.trans0 hk5
 refine ⟨trivial, ?_⟩
 refine dC0 .nil rfl rfl rfl rfl (oFB rfl (fnOk_of Try.func13 (by decide) rfl) (Same_ok o1 o1 r1 r2 _ (hr1.kp (hk4.trans0 hk5)) hr2 (by omega)) (fun h31 => ?_) (fun h31 => absurd rfl (of_decide_eq_false h31)))
 refine ⟨trivial, ?_⟩
 refine dL rfl rfl rfl rfl (oV rfl ?_)
 refine dR0 rfl rfl rfl rfl (op_load_at (x := .agg [_, _]) rfl gG rfl) ?_
 refine dL rfl rfl rfl rfl (oV rfl ?_)
 refine dL rfl rfl rfl rfl (oV rfl ?_)
 refine dL rfl rfl rfl rfl (oV rfl ?_)
 refine dR0 rfl rfl rfl rfl (op_load_at (x := .agg [_, _]) rfl gG rfl) ?_
 refine dL rfl rfl rfl rfl (oV rfl ?_)
 refine dL rfl rfl rfl rfl (oV rfl ?_)
 refine dL rfl rfl rfl rfl (oV rfl ?_)
 refine dC0 (.keep rfl (.drop rfl .nil)) rfl rfl rfl rfl (oC rfl (fnOk_of Try.func14 (by decide) rfl) (RunO (prF la lb b1 b2 v1 v2) _ [103] [w1] (some (_, 0)) _ _ (hLP.kp hK5) hRd.lowF (row1n hca5) o3 hO3) ?_)
 rintro u G7 ⟨r3, rfl, hr3, hrid3, hol3, hk7⟩
 have hcp7 : G7.get G1.n = some (.cells 25 1 [.slice (some (ida, 0)) 2, .slice (some (idf, 0)) 2]) := hk7.get gG rfl
 have hca7 : G7.get (G1.n + 1) = some (.cells 2 2 [.int .i64 w1, .int .i64 w2]) := hk7.get gG rfl
 have hK7 : Kp [] G1 G7 := hK5.trans0 hk7
 refine ⟨⟨.inr (⟨_, rfl, op_load_at (x := .agg [.slice (some (ida, 0)) 2, .slice (some (idf, 0)) 2]) rfl hcp7 rfl⟩), .inl rfl, trivial⟩, ?_⟩
 refine dC0 (.drop rfl .nil) rfl rfl rfl rfl (oC rfl (fnOk_of Try.func20 (by decide) rfl) (Swapped_ok (prF la lb b1 b2 v1 v2) _ _ (hLP.kp hK7) (by show 2 ≤ 1000; decide) (by show 2 ≤ 1000; decide)) ?_)
 rintro u G8 ⟨cs8, rfl, hL8, hk8⟩
 have hcp8 : G8.get G1.n = some (.cells 25 1 [.slice (some (ida, 0)) 2, .slice (some (idf, 0)) 2]) := hk8.get gG rfl
 have hca8 : G8.get (G1.n + 1) = some (.cells 2 2 [.int .i64 w1, .int .i64 w2]) := hk8.get gG rfl
 have hK8 : Kp [] G1 G8 := hK7.trans0 hk8
 refine ⟨⟨.inl rfl, trivial⟩, ?_⟩
 refine dC0 .nil rfl rfl rfl rfl (oC rfl (fnOk_of Try.func14 (by decide) rfl) (RunO (revP (prF la lb b1 b2 v1 v2)) cs8 [103] [w1] (some (_, 0)) _ _ hL8 (low_rev hRd.lowF) (row1n hca8) o3 ((run_rev _ _ _ _).trans hO3)) ?_)
 rintro u G9 ⟨r4, rfl, hr4, hrid4, hol4, hk9⟩
 refine ⟨trivial, ?_⟩
 refine dC0 .nil rfl rfl rfl rfl (oFB rfl (fnOk_of Try.func13 (by decide) rfl) (Same_ok o3 o3 r3 r4 _ (hr3.kp (hk8.trans0 hk9)) hr4 (by omega)) (fun h44 => ?_) (fun h44 => absurd rfl (of_decide_eq_false h44)))
 refine ⟨trivial, ?_⟩
 refine dL rfl rfl rfl rfl (oV rfl ?_)
 refine dL rfl rfl rfl rfl (oV rfl ?_)
 refine dC0 .nil rfl rfl rfl rfl (oF rfl (fnOk_of Try.func3 (by decide) rfl) (iexamples_ok _) ?_)
 refine ⟨trivial, ?_⟩
 refine dL rfl rfl rfl rfl (oV rfl ?_)
 refine dL rfl rfl rfl rfl (oV rfl ?_)
 refine dE0 ?_
 show TrP 49 _ _ _ _
 refine tH [(0, _), (1, _), (2, _), (3, _), (4, _), (10, _), (11, _), (12, _), (13, _)] ?_
 refine Tri.ret ?_
 refine ⟨trivial, _, rfl, ?_⟩
 exact ⟨rfl, trivial⟩
end Go.Proofs.Ytnhobbjbgljpnaa
