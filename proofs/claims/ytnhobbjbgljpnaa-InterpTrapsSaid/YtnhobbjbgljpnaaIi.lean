/-
  CONTRACTS: SameOutcome, Args, Fuel, Swapped (printed by wip/tools/walk.py from wip/specs/intG.py). Written in this session.
-/
import Derived.Test.YtnhobbjbgljpnaaIh
import Derived.Test.YtnhobbjbgljpnaaKv
import Derived.Test.YtnhobbjbgljpnaaKu
namespace Go.Proofs.Ytnhobbjbgljpnaa
open Go.Ea
set_option maxRecDepth 100000
set_option linter.unusedVariables false
set_option linter.unusedSimpArgs false

set_option maxHeartbeats 1000000 in
theorem Same_ok (o1 o2 : OC) (q1 q2 : Option (Nat × Nat)) (H : Heap) (h1 : RowR H numC 1 o1.out q1) (h2 : RowR H numC 1 o2.out q2) (hl : o1.out.length < 4611686018427387904) : Sim Try.prog 13 [.one (.agg [.int .i64 o1.kind, .int .i64 o1.code, .slice q1 o1.out.length, .int .i64 o1.value]), .one (.agg [.int .i64 o2.kind, .int .i64 o2.code, .slice q2 o2.out.length, .int .i64 o2.value])] H (fun u G => u = at' (.bool (decide (o1 = o2))) ∧ G = H) := by
 refine Sim.trim ?_
 refine Sim.of_tri Try.func13 rfl ?_
 show TrP 52 _ _ _ _
 refine Tri.seq ?_
 refine tR ?_
 refine sO rfl rfl (oBox (cs := [_, _, _, _]) rfl rfl ?_)
 refine sO rfl rfl (oBox (cs := [_, _, _, _]) rfl rfl ?_)
 refine sV rfl rfl rfl ?_
 show TrP 52 _ _ _ _
 refine tH [(0, _), (1, _), (2, _), (3, _), (4, _)] ?_
 refine Tri.seq ?_
 refine Tri.seq ?_
 refine tR ?_
 refine sO rfl rfl (oW (at' (.ptr (some (_, 0)))) rfl rfl ?_)
 refine sO rfl rfl (oLoad (x := .at _) rfl gG rfl ?_)
 refine sO rfl rfl (oW (at' (.ptr (some (_, 0)))) rfl rfl ?_)
 refine sO rfl rfl (oLoad (x := .at _) rfl gG rfl ?_)
 refine sO rfl rfl (oNE rfl (fun h10 => ?_) (fun h10 => ?_))
 ·
  refine sV rfl rfl rfl ?_
  iterate 5 refine sN rfl rfl ?_
  iterate 2 refine sV rfl rfl rfl ?_
  iterate 5 refine sN rfl rfl ?_
  iterate 2 refine sV rfl rfl rfl ?_
  iterate 7 refine sN rfl rfl ?_
  refine sV rfl rfl rfl ?_
  show TrP 52 _ _ _ _
  refine tH [(0, _), (1, _), (2, _), (3, _), (4, _), (33, _)] ?_
  refine tT rfl ?_
  refine Tri.seq ?_
  refine tR ?_
  refine sV rfl rfl rfl ?_
  show TrP 52 _ _ _ _
  refine tH [(0, _), (1, _), (2, _), (3, _), (4, _), (33, _)] ?_
  refine Tri.ret ?_
  refine ⟨trivial, _, rfl, ?_⟩
  have e : decide (o1 = o2) = false := by
    rw [decide_eq_false_iff_not]
    rintro rfl
    first
      | exact h10 rfl
      | exact h16 rfl
      | exact h23 rfl
      | exact h32 rfl
  rw [e]; exact ⟨kZ, rfl, rfl⟩
 ·
  refine sV rfl rfl rfl ?_
  refine sO rfl rfl (oW (at' (.ptr (some (_, 1)))) rfl rfl ?_)
  refine sO rfl rfl (oLoad (x := .at _) rfl gG rfl ?_)
  refine sO rfl rfl (oW (at' (.ptr (some (_, 1)))) rfl rfl ?_)
  refine sO rfl rfl (oLoad (x := .at _) rfl gG rfl ?_)
  refine sO rfl rfl (oNE rfl (fun h16 => ?_) (fun h16 => ?_))
  ·
   iterate 2 refine sV rfl rfl rfl ?_
   iterate 5 refine sN rfl rfl ?_
   iterate 2 refine sV rfl rfl rfl ?_
   iterate 7 refine sN rfl rfl ?_
   refine sV rfl rfl rfl ?_
   show TrP 52 _ _ _ _
   refine tH [(0, _), (1, _), (2, _), (3, _), (4, _), (33, _)] ?_
   refine tT rfl ?_
   refine Tri.seq ?_
   refine tR ?_
   refine sV rfl rfl rfl ?_
   show TrP 52 _ _ _ _
   refine tH [(0, _), (1, _), (2, _), (3, _), (4, _), (33, _)] ?_
   refine Tri.ret ?_
   refine ⟨trivial, _, rfl, ?_⟩
   have e : decide (o1 = o2) = false := by
     rw [decide_eq_false_iff_not]
     rintro rfl
     first
       | exact h10 rfl
       | exact h16 rfl
       | exact h23 rfl
       | exact h32 rfl
   rw [e]; exact ⟨kZ, rfl, rfl⟩
  ·
   iterate 2 refine sV rfl rfl rfl ?_
   refine sO rfl rfl (oW (at' (.ptr (some (_, 3)))) rfl rfl ?_)
   refine sO rfl rfl (oLoad (x := .at _) rfl gG rfl ?_)
   refine sO rfl rfl (oW (at' (.ptr (some (_, 3)))) rfl rfl ?_)
   refine sO rfl rfl (oLoad (x := .at _) rfl gG rfl ?_)
   refine sO rfl rfl (oNE rfl (fun h23 => ?_) (fun h23 => ?_))
   ·
    iterate 2 refine sV rfl rfl rfl ?_
    iterate 7 refine sN rfl rfl ?_
    refine sV rfl rfl rfl ?_
    show TrP 52 _ _ _ _
    refine tH [(0, _), (1, _), (2, _), (3, _), (4, _), (33, _)] ?_
    refine tT rfl ?_
    refine Tri.seq ?_
    refine tR ?_
    refine sV rfl rfl rfl ?_
    show TrP 52 _ _ _ _
    refine tH [(0, _), (1, _), (2, _), (3, _), (4, _), (33, _)] ?_
    refine Tri.ret ?_
    refine ⟨trivial, _, rfl, ?_⟩
    have e : decide (o1 = o2) = false := by
      rw [decide_eq_false_iff_not]
      rintro rfl
      first
        | exact h10 rfl
        | exact h16 rfl
        | exact h23 rfl
        | exact h32 rfl
    rw [e]; exact ⟨kZ, rfl, rfl⟩
   ·
    iterate 2 refine sV rfl rfl rfl ?_
    refine sO rfl rfl (oW (at' (.ptr (some (_, 2)))) rfl rfl ?_)
    refine sO rfl rfl (oLoad (x := .at _) rfl gG rfl ?_)
    refine sV rfl rfl rfl ?_
    refine sO rfl rfl (oW (at' (.ptr (some (_, 2)))) rfl rfl ?_)
    refine sO rfl rfl (oLoad (x := .at _) rfl gG rfl ?_)
    refine sV rfl rfl rfl ?_
    refine sO rfl rfl (oNE rfl (fun h32 => ?_) (fun h32 => ?_))
    ·
     refine sV rfl rfl rfl ?_
     show TrP 52 _ _ _ _
     refine tH [(0, _), (1, _), (2, _), (3, _), (4, _), (33, _)] ?_
     refine tT rfl ?_
     refine Tri.seq ?_
     refine tR ?_
     refine sV rfl rfl rfl ?_
     show TrP 52 _ _ _ _
     refine tH [(0, _), (1, _), (2, _), (3, _), (4, _), (33, _)] ?_
     refine Tri.ret ?_
     refine ⟨trivial, _, rfl, ?_⟩
     have e : decide (o1 = o2) = false := by
       rw [decide_eq_false_iff_not]
       rintro rfl
       first
         | exact h10 rfl
         | exact h16 rfl
         | exact h23 rfl
         | exact h32 rfl
     rw [e]; exact ⟨kZ, rfl, rfl⟩
    ·
     refine sV rfl rfl rfl ?_
     show TrP 52 _ _ _ _
     refine tH [(0, _), (1, _), (2, _), (3, _), (4, _), (33, _)] ?_
     refine tF rfl ?_
     refine Tri.skip ?_
     show TrP 52 _ _ _ _
     refine tH [(0, _), (1, _), (2, _), (3, _), (4, _), (33, _)] ?_
     refine Tri.seq ?_
     refine Tri.seq ?_
     refine tR ?_
     refine sV rfl rfl rfl ?_
     show TrP 52 _ _ _ _
     refine tH [(0, _), (1, _), (2, _), (3, _), (4, _), (5, _), (33, _)] ?_
     refine Tri.block ?_
     refine Tri.loop (fun k' lk1 H1 => ∃ (j : Nat), k' = o1.out.length - j ∧ j ≤ o1.out.length ∧ (∀ i, i < j → o1.out[i]? = o2.out[i]?) ∧ H1.get H.n = some (.cells 34 1 [.int .i64 o1.kind, .int .i64 o1.code, .slice q1 o1.out.length, .int .i64 o1.value]) ∧ H1.get (H.n + 1) = some (.cells 34 1 [.int .i64 o2.kind, .int .i64 o2.code, .slice q2 o2.out.length, .int .i64 o2.value]) ∧ Kp [] H H1 ∧ Has lk1 [(2, at' (.ptr (some (H.n, 0)))), (3, at' (.ptr (some (H.n + 1, 0)))), (5, at' (.int .i64 j))]) (o1.out.length) (⟨0, rfl, by omega, fun i h => (by omega), gG, gG, kZ, ⟨rfl, rfl, rfl, trivial⟩⟩) ?_
     rintro k' lk1 H1 ⟨j, hk1, hj, hall, hb1, hb2, hk, hh⟩
     refine Tri.has hh ?_
     refine Tri.seq ?_
     refine Tri.seq ?_
     refine tR ?_
     refine sV rfl rfl rfl ?_
     refine sO rfl rfl (oW (at' (.ptr (some (_, 2)))) rfl rfl ?_)
     refine sO rfl rfl (oLoad (x := .at _) rfl gG rfl ?_)
     refine sV rfl rfl rfl ?_
     refine sO rfl rfl (oP rfl (fun h38 => ?_) (fun h38 => ?_))
     ·
      show TrP 52 _ _ _ _
      refine tH [(2, _), (3, _), (5, _), (38, _)] ?_
      refine tT rfl ?_
      refine Tri.skip ?_
      show TrP 52 _ _ _ _
      refine tH [(2, _), (3, _), (5, _), (38, _)] ?_
      refine Tri.seq ?_
      refine Tri.block ?_
      refine Tri.seq ?_
      refine Tri.drawn1 mixed eqsOk (eqs := eqs) ⟨[0, 1, 0, 7, 15, 0, 32, 0, 224, 480, 1023], [0, 0, 0, 0, 0, 0, 0, 0, 0, 0, 0], 1, [0, 1, 2, 3, 4, 5, 6, 7, 8, 9, 10]⟩ (by decide +kernel) rfl ?_
      refine dL rfl rfl rfl rfl (oW (at' (.ptr (some (_, 2)))) rfl rfl ?_)
      refine dR0 rfl rfl rfl rfl (op_load_at (x := .at _) rfl gG rfl) ?_
      refine dL rfl rfl rfl rfl (oV rfl ?_)
      obtain ⟨v1, hv1⟩ : ∃ v, o1.out[j]? = some v := ⟨_, List.getElem?_eq_getElem (by omega)⟩
      obtain ⟨v2, hv2⟩ : ∃ v, o2.out[j]? = some v := ⟨_, List.getElem?_eq_getElem (by omega)⟩
      obtain ⟨id1, p1, T1, k1, c1, hq1, hg1, hle1, hr1⟩ := h1.at (fun _ => rfl) hv1
      obtain ⟨id2, p2, T2, k2, c2, hq2, hg2, hle2, hr2⟩ := h2.at (fun _ => rfl) hv2
      have hg1 := hk.get hg1 rfl
      have hg2 := hk.get hg2 rfl
      refine dL rfl rfl rfl rfl (oIA (z := 1) (i := j) (n := o1.out.length) (by rw [← hq1]; rfl) rfl rfl rfl (by omega) ?_)
      refine dR0 rfl rfl rfl rfl (op_load_at (x := .at (.int .i64 v1)) rfl gG (part_one hr1 rfl rfl rfl)) ?_
      refine dL rfl rfl rfl rfl (oW (at' (.ptr (some (_, 2)))) rfl rfl ?_)
      refine dR0 rfl rfl rfl rfl (op_load_at (x := .at _) rfl gG rfl) ?_
      refine dL rfl rfl rfl rfl (oV rfl ?_)
      refine dL rfl rfl rfl rfl (oIA (z := 1) (i := j) (n := o2.out.length) (by rw [← hq2]; rfl) rfl rfl rfl (by omega) ?_)
      refine dR0 rfl rfl rfl rfl (op_load_at (x := .at (.int .i64 v2)) rfl gG (part_one hr2 rfl rfl rfl)) ?_
      refine dL rfl rfl rfl rfl (oNE rfl (fun h51 => ?_) (fun h51 => ?_))
      ·
       refine dE0 ?_
       show TrP 52 _ _ _ _
       refine tH [(2, _), (3, _), (5, _), (38, _), (51, _)] ?_
       refine tT rfl ?_
       refine Tri.seq ?_
       refine tR ?_
       refine sV rfl rfl rfl ?_
       show TrP 52 _ _ _ _
       refine tH [(2, _), (3, _), (4, _), (5, _), (38, _), (51, _)] ?_
       refine Tri.ret ?_
       refine ⟨trivial, _, rfl, ?_⟩
       have e : decide (o1 = o2) = false := by
         rw [decide_eq_false_iff_not]
         rintro rfl
         rw [hv1] at hv2; cases hv2; exact h51 rfl
       rw [e]; exact ⟨(by repeat (first | assumption | refine Kp.push ?_)), rfl, rfl⟩
      ·
       refine dE0 ?_
       show TrP 52 _ _ _ _
       refine tH [(2, _), (3, _), (5, _), (38, _), (51, _)] ?_
       refine tF rfl ?_
       refine Tri.skip ?_
       show TrP 52 _ _ _ _
       refine tH [(2, _), (3, _), (5, _), (38, _), (51, _)] ?_
       refine tR ?_
       refine sV rfl rfl rfl ?_
       refine sO rfl rfl (oAdd (m := 1) rfl (by omega) ?_)
       refine sV rfl rfl rfl ?_
       exact ⟨o1.out.length - (j + 1), by omega, j + 1, rfl, by omega, fun i hi => (by
         by_cases e : i = j
         · rw [e, hv1, hv2, h51]
         · exact hall i (by omega)), gG, gG, (by repeat (first | assumption | refine Kp.push ?_)), ⟨rfl, rfl, rfl, trivial⟩⟩
     ·
      show TrP 52 _ _ _ _
      refine tH [(2, _), (3, _), (5, _), (38, _)] ?_
      refine tF rfl ?_
      refine Tri.exit ?_
      show TrP 52 _ _ _ _
      refine tH [(2, _), (3, _), (5, _), (38, _)] ?_
      refine Tri.seq ?_
      refine tR ?_
      refine sV rfl rfl rfl ?_
      show TrP 52 _ _ _ _
      refine tH [(2, _), (3, _), (4, _), (5, _), (38, _)] ?_
      refine Tri.ret ?_
      refine ⟨trivial, _, rfl, ?_⟩
      have e : decide (o1 = o2) = true := by
        rw [decide_eq_true_eq]
        have ho : o1.out = o2.out := List.ext_getElem? fun i => by
          by_cases hi : i < j
          · exact hall i hi
          · rw [List.getElem?_eq_none (by omega), List.getElem?_eq_none (by omega)]
        cases o1; cases o2
        simp only [] at h10 h16 h23 ho
        rw [h10, h16, h23, ho]
      rw [e]; exact ⟨(by repeat (first | assumption | refine Kp.push ?_)), rfl, rfl⟩
theorem Args_ok (a b raw : Int) (H : Heap) : Sim Try.prog 16 [at' (.int .i64 a), at' (.int .i64 b), at' (.int .i64 raw)] H (fun u G => ∃ w1 w2 : Int, u = at' (.slice (some (H.n, 0)) 2) ∧ G = H.push (.cells 2 2 [.int .i64 w1, .int .i64 w2])) := by
 refine Sim.of_tri Try.func16 rfl ?_
 show TrP 14 _ _ _ _
 refine Tri.seq ?_
 refine tR ?_
 refine sV rfl rfl rfl ?_
 show TrP 14 _ _ _ _
 refine tH [(0, _), (1, _), (2, _), (6, _)] ?_
 refine Tri.seq ?_
 refine tR ?_
 iterate 2 refine sV rfl rfl rfl ?_
 refine sO rfl rfl (oC rfl (fnOk_of Try.func33 (by decide) rfl) (Word_ok _ _ _) ?_)
 rintro u G ⟨⟨w1, rfl⟩, rfl⟩
 iterate 2 refine sV rfl rfl rfl ?_
 refine sO rfl rfl (oC rfl (fnOk_of Try.func33 (by decide) rfl) (Word_ok _ _ _) ?_)
 rintro u G ⟨⟨w2, rfl⟩, rfl⟩
 refine sO rfl rfl (oBS2 rfl rfl rfl rfl rfl ?_)
 refine sV rfl rfl rfl ?_
 show TrP 14 _ _ _ _
 refine tH [(0, _), (1, _), (2, _), (6, _)] ?_
 refine Tri.ret ?_
 refine ⟨trivial, _, rfl, ?_⟩
 exact ⟨w1, w2, rfl, rfl⟩
theorem Fuel_ok (n : Int) (H : Heap) : Sim Try.prog 17 [at' (.int .i64 n)] H (fun u G => u = at' (.int .i64 (pk n 12)) ∧ G = H) := by
 refine Sim.of_tri Try.func17 rfl ?_
 show TrP 5 _ _ _ _
 refine Tri.seq ?_
 refine tR ?_
 refine sV rfl rfl rfl ?_
 show TrP 5 _ _ _ _
 refine tH [(0, _), (2, _)] ?_
 refine Tri.seq ?_
 refine tR ?_
 refine sV rfl rfl rfl ?_
 refine sO rfl rfl (oF rfl (fnOk_of Try.func18 (by decide) rfl) (Pick_ok _ 12 _ (by omega) (by omega)) ?_)
 refine sV rfl rfl rfl ?_
 show TrP 5 _ _ _ _
 refine tH [(0, _), (2, _)] ?_
 refine Tri.ret ?_
 refine ⟨trivial, _, rfl, ?_⟩
 exact ⟨rfl, rfl⟩
theorem RowQ_src {β : Type} {P : Program} {H : Heap} {z : Nat} {R : β → List AT → Prop} {xs : List β} {p : Option (Nat × Nat)} (h : RowQ H z R xs p) : ∃ new, (∀ G, Kp [] H G → srcA P G z (at' (.slice p xs.length)) = some (xs.length, new)) ∧ (new.length = xs.length * z) ∧ Lay z R xs new := by
  cases xs with
  | nil =>
    refine ⟨[], fun G _ => ?_, by simp, rfl⟩
    rcases p with _ | ⟨id, o⟩ <;> rfl
  | cons x r =>
    cases p with
    | none => have := h.1 rfl; cases this
    | some q =>
      obtain ⟨id, o⟩ := q
      rcases h.2 id o rfl with e | ⟨T, k, c, h1, h2, h3⟩
      · cases e
      · exact ⟨_, fun G hk => srcA_row (hk.get h1 rfl) h2, by rw [List.length_take, List.length_drop]; omega, h3⟩
theorem rev_snoc {l : List Fn1} {j : Nat} {g : Fn1} (h : l[j]? = some g) : (l.drop j).reverse = (l.drop (j + 1)).reverse ++ [g] := by rw [drop_at h, List.reverse_cons]
theorem oBSe {P : Program} {eqs : Eqs} {lk : Env} {H : Heap} {K : AV → Heap → Prop} {T e : TypeId} {n : Nat} {z : A1} (hu : isSliceD (P.underlying T) = some e) (hz : sizeO P e = some n) (h0 : zeroOf P e = some z) (hk : K (at' (.slice (some (H.n, 0)) 0)) (H.push (.cells e 2 []))) (ho : opA (.buildSlice T 0 #[]) P eqs lk H = some (.val (at' (.slice (some (H.n, 0)) 0)) (H.push (.cells e 2 [])))) : opP P eqs (.buildSlice T 0 #[]) lk H K := oV ho hk

set_option maxHeartbeats 2000000 in
theorem Swapped_ok (p : Pr) (cs : List AT) (H : Heap) (hL : LPr H p cs) (hfl : p.funcs.length ≤ 1000) (hal : p.arrays.length ≤ 1000) : Sim Try.prog 20 [.one (.agg cs)] H (fun u G => ∃ cs', u = .one (.agg cs') ∧ LPr G (revP p) cs' ∧ Kp [] H G) := by
 obtain ⟨pa, pf, rfl, hA, hF⟩ := hL
 refine Sim.of_tri Try.func20 rfl ?_
 show TrP 29 _ _ _ _
 refine Tri.seq ?_
 refine tR ?_
 refine sO rfl rfl (oBox (cs := [_, _]) rfl rfl ?_)
 refine sO rfl rfl (oAlloc (cs := [.slice none 0, .slice none 0]) rfl rfl ?_)
 show TrP 29 _ _ _ _
 refine tH [(0, _), (1, _), (2, _)] ?_
 refine Tri.seq ?_
 refine tR ?_
 refine sO rfl rfl (oBSe (n := 2) rfl rfl rfl ?_ rfl)
 refine sO rfl rfl (oW (at' (.ptr (some (_, 0)))) rfl rfl ?_)
 refine sO rfl rfl (oLoad (x := .at _) rfl gG rfl ?_)
 obtain ⟨new, hsrc, hnl, hnL⟩ := RowQ_src (P := Try.prog) hA
 refine sO rfl rfl (oAppS (lo := H.n + 2) (n := 0) (m := p.arrays.length) (cs := []) (new := new) rfl rfl rfl rfl (.inr ⟨H.n + 2, Nat.le_refl _, rfl, gG⟩) rfl rfl rfl rfl rfl rfl (hsrc _ kZ) hnl rfl (by (show (0 + p.arrays.length) * 24 ≤ _); omega) (by omega) (by simp only [Heap.n_push]; omega) (fun b G1 hrb hkb _ => ?_))
 have hb0 := hkb.g H.n _ (show _ = some (.cells 25 1 [.slice pa p.arrays.length, .slice pf p.funcs.length]) from gG) rfl (fun hm => by simp only [rid, List.mem_cons, List.not_mem_nil, or_false, Heap.n_push] at hm; omega)
 have hb1 := hkb.g (H.n + 1) _ (show _ = some (.cells 25 1 [.slice none 0, .slice none 0]) from gG) rfl (fun hm => by simp only [rid, List.mem_cons, List.not_mem_nil, or_false, Heap.n_push] at hm; omega)
 rw [Nat.zero_add, List.nil_append] at hrb
 have hk1 : Kp [] H G1 := (show Kp [] H _ from kZ).trans hkb (fun i hi => .inr (by simp only [rid, List.mem_cons, List.not_mem_nil, or_false, Heap.n_push] at hi; omega))
 have hrd := hrb.rid
 have hn1 := hk1.n
 have hl0 := Heap.get_lt hb0
 have hl1 := Heap.get_lt hb1
 refine sO rfl rfl (oW (.one (.agg [_, .slice none 0])) rfl rfl ?_)
 refine sO rfl rfl (oAlloc (cs := [.slice none 0, .slice none 0]) rfl rfl ?_)
 refine sO rfl rfl (oStore (n := 2) (cs' := [_, _]) rfl rfl rfl gG rfl (Nat.le_of_ble_eq_true rfl) rfl rfl ?_)
 show TrP 29 _ _ _ _
 refine tH [(0, _), (1, _), (2, _), (3, _)] ?_
 refine Tri.seq ?_
 refine Tri.seq ?_
 refine tR ?_
 refine sO rfl rfl (oW (at' (.ptr (some (_, 1)))) rfl rfl ?_)
 refine sO rfl rfl (oLoad (x := .at _) rfl gG rfl ?_)
 refine sV rfl rfl rfl ?_
 refine sO rfl rfl (oArith (x := (p.funcs.length : Int) - 1) rfl (by omega) (by omega) ?_)
 refine sV rfl rfl rfl ?_
 show TrP 29 _ _ _ _
 refine tH [(0, _), (1, _), (2, _), (3, _), (4, _)] ?_
 refine Tri.block ?_
 refine Tri.loop (fun k' lk1 H1 => ∃ (j : Nat) (cs : List AT) (a : AT), k' = j ∧ j ≤ p.funcs.length ∧ RowA H1 (G1.n + 1) 56 (p.funcs.length - j) cs a ∧ (cs.length = (p.funcs.length - j) * 9) ∧ Lay 9 (LFn H) (p.funcs.drop j).reverse cs ∧ RowA H1 (H.n + 2) 70 p.arrays.length new b ∧ H1.get H.n = some (.cells 25 1 [.slice pa p.arrays.length, .slice pf p.funcs.length]) ∧ H1.get (H.n + 1) = some (.cells 25 1 [.slice none 0, .slice none 0]) ∧ H1.get G1.n = some (.cells 25 1 [b, a]) ∧ Kp [] H H1 ∧ Has lk1 [(1, at' (.ptr (some (H.n, 0)))), (2, at' (.ptr (some (H.n + 1, 0)))), (3, at' (.ptr (some (G1.n, 0)))), (4, at' (.int .i64 ((j : Int) - 1)))]) (p.funcs.length) (⟨p.funcs.length, [], .slice none 0, rfl, Nat.le_refl _, by rw [Nat.sub_self]; exact RowA.nil _ _ _, by rw [Nat.sub_self]; rfl, by rw [List.drop_length]; rfl, hrb.kpr (own := []) kZ (fun d _ => by simp), gG, gG, gG, kH, ⟨rfl, rfl, rfl, rfl, trivial⟩⟩) ?_
 rintro k' lk1 H2 ⟨j, cs, a, hk2, hj, hra, hcl, hLay, hrb2, hb0, hb1, hcx, hk, hh⟩
 refine Tri.has hh ?_
 have hnk := hk.n
 refine Tri.seq ?_
 refine Tri.seq ?_
 refine tR ?_
 refine sV rfl rfl rfl ?_
 refine sO rfl rfl (oP rfl (fun h15 => ?_) (fun h15 => ?_))
 ·
  show TrP 29 _ _ _ _
  refine tH [(1, _), (2, _), (3, _), (4, _), (15, _)] ?_
  refine tT rfl ?_
  refine Tri.skip ?_
  show TrP 29 _ _ _ _
  refine tH [(1, _), (2, _), (3, _), (4, _), (15, _)] ?_
  refine Tri.seq ?_
  refine Tri.block ?_
  refine Tri.drawn1 mixed eqsOk (eqs := eqs) ⟨[0, 1, 0, 4, 0, 28, 60, 124, 255, 511, 1023], [0, 0, 0, 0, 0, 0, 0, 0, 0, 0, 0], 1, [0, 1, 2, 3, 4, 5, 6, 7, 8, 9, 10]⟩ (by decide +kernel) rfl ?_
  refine dL rfl rfl rfl rfl (oW (at' (.ptr (some (_, 1)))) rfl rfl ?_)
  refine dR0 rfl rfl rfl rfl (op_load_at (x := .at _) rfl gG rfl) ?_
  refine dL rfl rfl rfl rfl (oW (at' (.ptr (some (_, 1)))) rfl rfl ?_)
  refine dR0 rfl rfl rfl rfl (op_load_at (x := .at _) rfl gG rfl) ?_
  refine dL rfl rfl rfl rfl (oV rfl ?_)
  obtain ⟨j', rfl⟩ : ∃ j', j = j' + 1 := ⟨j - 1, by omega⟩
  have ej : ((j' + 1 : Nat) : Int) - 1 = (j' : Int) := by omega
  obtain ⟨g, hg⟩ : ∃ g, p.funcs[j']? = some g := ⟨_, List.getElem?_eq_getElem (by omega)⟩
  obtain ⟨id, oo, T, qq, c, hpf, hgB, hle, hLg⟩ := hF.at hg
  have hgg := hk.get hgB rfl
  obtain ⟨pp, pl, pb, b1, b2, b3, b4, b5, nb, hgcs, _⟩ := hLg.out
  have hLg2 := hLg
  rw [hgcs] at hLg2
  refine dL rfl rfl rfl rfl (oIA (z := 9) (i := j') (n := p.funcs.length) (by rw [← hpf]; rfl) (by rw [← ej]; rfl) rfl rfl (by omega) ?_)
  refine dR0 rfl rfl rfl rfl (op_load_at (x := .agg [.str g.name, .slice pp g.params.length, .slice pl g.locals.length, .slice pb g.body.length, .int .i64 b1, .int .i64 b2, .str b3, .int .i64 b4, .slice b5 nb]) rfl gG (part_all hgcs hle rfl rfl rfl)) ?_
  refine dM rfl rfl rfl rfl (obj := .cells 56 2 [.str g.name, .slice pp g.params.length, .slice pl g.locals.length, .slice pb g.body.length, .int .i64 b1, .int .i64 b2, .str b3, .int .i64 b4, .slice b5 nb]) (v := at' (.slice (some (H2.n + 0, 0)) 1)) rfl ?_
  have hra2 : ∀ ob, RowA ((H2.push .dead).set (H2.n + 0) ob) (G1.n + 1) 56 (p.funcs.length - (j' + 1)) cs a := fun ob => hra.kpr (own := []) (Kp.set (Kp.push Kp.refl) (by simp only [Heap.n_push]; omega) (.inr (by omega))) (fun d _ => by simp)
  have hrd2 := hra.rid
  have hgl := Heap.get_lt hcx
  refine dCm (Heap.set (Heap.push _ .dead) (_ + 0) _) (.drop rfl .nil) (.drop rfl (.drop rfl (.drop rfl .nil))) rfl rfl rfl rfl rfl (oAppK (lo := G1.n + 1) (n := p.funcs.length - (j' + 1)) (m := 1) (cs := cs) (new := [.str g.name, .slice pp g.params.length, .slice pl g.locals.length, .slice pb g.body.length, .int .i64 b1, .int .i64 b2, .str b3, .int .i64 b4, .slice b5 nb]) rfl rfl rfl rfl (hra2 _) rfl gG rfl rfl rfl rfl rfl rfl rfl hcl (by (show (p.funcs.length - (j' + 1) + 1) * 152 ≤ _); omega) (by omega) (fun ax H4 hr4 hk4 ⟨id4, ha4, hid4, hg4⟩ => ?_))
  have hc4 : H4.get G1.n = some (.cells 25 1 [b, a]) := hk4.g _ _ gG rfl (fun hm => by have := hrd2 _ hm; omega)
  have hb04 : H4.get H.n = some (.cells 25 1 [.slice pa p.arrays.length, .slice pf p.funcs.length]) := hk4.g _ _ gG rfl (fun hm => by have := hrd2 _ hm; omega)
  have hb14 : H4.get (H.n + 1) = some (.cells 25 1 [.slice none 0, .slice none 0]) := hk4.g _ _ gG rfl (fun hm => by have := hrd2 _ hm; omega)
  have hgl4 := Heap.get_lt hc4
  have K4 : Kp [] H H4 := (show Kp [] H _ from Kp.set (Kp.push hk) (by simp only [Heap.n_push]; omega) (.inr (by have := hk.n; omega))).trans hk4 (fun d hd => .inr (by have := hrd2 d hd; omega))
  have hrb4 : RowA H4 (H.n + 2) 70 p.arrays.length new b := (hrb2.kpr (own := []) (Kp.set (Kp.push Kp.refl) (by simp only [Heap.n_push]; omega) (.inr (by omega))) (fun d _ => by simp)).kpr hk4 (fun d hd hm => by have := hrd2 d hm; have := hrd d hd; omega)
  (try simp only [Heap.n_push, Heap.n_set] at hid4)
  refine ⟨⟨.inl rfl, .inl rfl, .inl rfl, trivial⟩, ?_⟩
  refine dL rfl rfl rfl rfl (oW (at' (.ptr (some (_, 1)))) rfl rfl ?_)
  refine dC0 .nil rfl rfl rfl rfl (oStore (n := 1) (cs' := [_, _]) rfl rfl rfl gG rfl (Nat.le_of_ble_eq_true rfl) rfl rfl ?_)
  refine ⟨trivial, ?_⟩
  refine dE0 ?_
  show TrP 29 _ _ _ _
  refine tH [(1, _), (2, _), (3, _), (4, _), (15, _)] ?_
  refine tR ?_
  refine sV rfl rfl rfl ?_
  refine sO rfl rfl (oArith (x := (((j' + 1 : Nat) : Int) - 1) - 1) rfl (by omega) (by omega) ?_)
  refine sV rfl rfl rfl ?_
  refine ⟨j', by omega, j', cs ++ [.str g.name, .slice pp g.params.length, .slice pl g.locals.length, .slice pb g.body.length, .int .i64 b1, .int .i64 b2, .str b3, .int .i64 b4, .slice b5 nb], ax, rfl, by omega, ?_, ?_, ?_, hrb4.kpr (own := [G1.n]) (Kp.set Kp.refl lL (.inl (by simp))) (fun d hd hm => by simp only [List.mem_cons, List.not_mem_nil, or_false] at hm; have := hrd d hd; omega), gG, gG, gG, kH, ⟨rfl, rfl, rfl, (by show some _ = some _; congr 4 <;> omega), trivial⟩⟩
  · have hn : p.funcs.length - j' = p.funcs.length - (j' + 1) + 1 := by omega
    rw [hn]
    refine (hr4.mono (by simp only [Heap.n_push, Heap.n_set]; omega) fun _ _ h => h).kpr (own := [G1.n]) (Kp.set Kp.refl lL (.inl (by simp))) (fun d hd hm => ?_)
    rw [ha4] at hd
    simp only [rid, List.mem_cons, List.not_mem_nil, or_false] at hd hm
    omega
  · rw [List.length_append, hcl]; show (p.funcs.length - (j' + 1)) * 9 + 9 = _; omega
  · rw [rev_snoc hg]; exact Lay.snoc hLay hLg2 rfl (by rw [hcl, List.length_reverse, List.length_drop])
 ·
  show TrP 29 _ _ _ _
  refine tH [(1, _), (2, _), (3, _), (4, _), (15, _)] ?_
  refine tF rfl ?_
  refine Tri.exit ?_
  show TrP 29 _ _ _ _
  refine tH [(1, _), (2, _), (3, _), (4, _), (15, _)] ?_
  refine Tri.seq ?_
  refine tR ?_
  refine sO rfl rfl (oLoad (x := .agg [_, _]) rfl gG rfl ?_)
  refine sO rfl rfl (oStore (n := 2) (cs' := [_, _]) rfl rfl rfl gG rfl (Nat.le_of_ble_eq_true rfl) rfl rfl ?_)
  show TrP 29 _ _ _ _
  refine tH [(1, _), (2, _), (3, _), (4, _), (15, _)] ?_
  refine Tri.ret ?_
  refine ⟨trivial, _, (resA_cell (x := .agg [_, _]) rfl gG rfl rfl), ?_⟩
  have hj0 : j = 0 := by omega
  subst hj0
  rw [List.drop_zero] at hLay
  rw [Nat.sub_zero] at hra hcl
  have KF : ∀ ob, Kp [] H (H2.set (H.n + 1) ob) := fun ob => Kp.set hk lL (.inr (by omega))
  have KO : ∀ ob i o, H2.get i = some o → H.n + 2 ≤ i → (H2.set (H.n + 1) ob).get i = some o := fun ob i o hi hlo => Heap.set_old hi (by omega) lL
  obtain ⟨p1, hp1, hq1⟩ := hrb2.q (H := H2.set (H.n + 1) (.cells 25 1 [b, a])) (R := LAr) (xs := p.arrays) rfl hnl hnL (fun id o hg hlo => KO _ id o hg hlo)
  obtain ⟨p2, hp2, hq2⟩ := hra.q (H := H2.set (H.n + 1) (.cells 25 1 [b, a])) (R := LFn (H2.set (H.n + 1) (.cells 25 1 [b, a]))) (xs := p.funcs.reverse) (by rw [List.length_reverse]) (by rw [List.length_reverse]; exact hcl) (hLay.imp fun f _ c h => LFn.kp (KF _) f c h) (fun id o hg hlo => KO _ id o hg (by omega))
  subst hp1; subst hp2
  exact ⟨_, rfl, ⟨p1, p2, rfl, hq1, hq2⟩, KF _⟩
end Go.Proofs.Ytnhobbjbgljpnaa
