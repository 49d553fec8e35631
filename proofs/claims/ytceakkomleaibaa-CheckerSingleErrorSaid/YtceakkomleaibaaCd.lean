/-
  CONTRACTS of the checker: the limits (printed by wip/tools/walk.py from wip/specs/chkD.py). Written in this session.
-/
import Derived.Test.YtceakkomleaibaaCc
namespace Go.Proofs.Ytceakkomleaibaa
open Go.Ea
set_option maxRecDepth 100000
set_option linter.unusedVariables false
set_option linter.unusedSimpArgs false

/-- What the first closure counts. -/
def stepL (s : Nat × Nat) (a : Stm × Nat) : Bool × (Nat × Nat) :=
  (decide (a.2 ≤ 20) && (decide (s.1 + 1 ≤ 200) && decide ((if a.1.kind = 4 then s.2 + 1 else s.2) ≤ 16)), (s.1 + 1, if a.1.kind = 4 then s.2 + 1 else s.2))
def stepD (_ : Unit) (a : Exp × Nat) : Bool × Unit := (decide (a.2 ≤ 20), ())

theorem limS_ok (x : Stm) (d n l : Nat) (cs : List AT) (idn idl : Nat) (H : Heap) (L : Heap) (hL : LM L x cs) (hn : H.get idn = some (.cells 3 1 [.int .i64 (n : Nat)])) (hl : H.get idl = some (.cells 3 1 [.int .i64 (l : Nat)])) (hne : idn ≠ idl) (hb : n ≤ 200) (hb2 : l ≤ 16) : Sim Try.prog 29 [.one (.agg cs), at' (.int .i64 d), at' (.ptr (some (idn, 0))), at' (.ptr (some (idl, 0)))] H (fun u G => u = at' (.bool (stepL (n, l) (x, d)).1) ∧ G.get idn = some (.cells 3 1 [.int .i64 ((stepL (n, l) (x, d)).2.1 : Nat)]) ∧ G.get idl = some (.cells 3 1 [.int .i64 ((stepL (n, l) (x, d)).2.2 : Nat)]) ∧ Kp [idn, idl] H G) := by
 obtain ⟨a1, a2, a3, a4, a5, na, b1, b2, b3, b4, b5, nb, pa, pt, pe, rfl, hsub, hval, hargs, hthn, hels⟩ := hL.out
 have hn1 := Heap.get_lt hn
 have hl1 := Heap.get_lt hl
 refine Sim.of_tri Try.func29 rfl ?_
 show TrP 24 _ _ _ _
 refine Tri.seq ?_
 refine tR ?_
 refine sO rfl rfl (oBox (cs := [_, _, _, _, _, _, _, _, _, _, _, _, _, _, _, _, _]) rfl rfl ?_)
 refine sV rfl rfl rfl ?_
 show TrP 24 _ _ _ _
 refine tH [(0, _), (1, _), (2, _), (3, _), (4, _), (6, _)] ?_
 refine Tri.seq ?_
 refine tR ?_
 refine sO rfl rfl (oLoad (x := .at _) rfl gG rfl ?_)
 refine sO rfl rfl (oAdd (m := 1) rfl (by omega) ?_)
 refine sO rfl rfl (oStore (n := 1) (cs' := _) rfl rfl rfl gG rfl (Nat.le_of_ble_eq_true rfl) rfl rfl ?_)
 show TrP 24 _ _ _ _
 refine tH [(0, _), (1, _), (2, _), (3, _), (4, _), (6, _)] ?_
 refine Tri.seq ?_
 refine Tri.seq ?_
 refine tR ?_
 refine sO rfl rfl (oW (at' (.ptr (some (_, 0)))) rfl rfl ?_)
 refine sO rfl rfl (oLoad (x := .at _) rfl gG rfl ?_)
 refine sO rfl rfl (oE rfl (fun h11 => ?_) (fun h11 => ?_))
 ·
  show TrP 24 _ _ _ _
  refine tH [(0, _), (1, _), (2, _), (3, _), (4, _), (6, _), (11, _)] ?_
  refine tT rfl ?_
  refine tR ?_
  refine sO rfl rfl (oLoad (x := .at _) rfl gG rfl ?_)
  refine sO rfl rfl (oAdd (m := 1) rfl (by omega) ?_)
  refine sO rfl rfl (oStore (n := 1) (cs' := _) rfl rfl rfl gG rfl (Nat.le_of_ble_eq_true rfl) rfl rfl ?_)
  show TrP 24 _ _ _ _
  refine tH [(0, _), (1, _), (2, _), (3, _), (4, _), (6, _), (11, _)] ?_
  refine Tri.seq ?_
  refine tR ?_
  refine sV rfl rfl rfl ?_
  refine sO rfl rfl (oP rfl (fun h15 => ?_) (fun h15 => ?_))
  ·
   refine sV rfl rfl rfl ?_
   refine sO rfl rfl (oLoad (x := .at _) rfl gG rfl ?_)
   refine sO rfl rfl (oP rfl (fun h18 => ?_) (fun h18 => ?_))
   ·
    iterate 2 refine sV rfl rfl rfl ?_
    refine sO rfl rfl (oLoad (x := .at _) rfl gG rfl ?_)
    refine sO rfl rfl (oP rfl (fun h22 => ?_) (fun h22 => ?_))
    ·
     iterate 2 refine sV rfl rfl rfl ?_
     show TrP 24 _ _ _ _
     refine tH [(0, _), (1, _), (2, _), (3, _), (4, _), (6, _), (11, _)] ?_
     refine Tri.ret ?_
     refine ⟨trivial, _, rfl, ?_⟩
     have e2 : (stepL (n, l) (x, d)).2 = (n + 1, if x.kind = 4 then l + 1 else l) := rfl
     have e1 : (stepL (n, l) (x, d)).1 = (decide (d ≤ 20) && (decide (n + 1 ≤ 200) && decide ((if x.kind = 4 then l + 1 else l) ≤ 16))) := rfl
     rw [e1, e2]
     first
       | rw [if_pos h11]
       | rw [if_neg h11]
     refine ⟨congrArg (fun b => at' (.bool b)) ?_, gG, gG, ?_⟩
     · first
         | (rw [decide_eq_true (show d ≤ 20 from by omega), decide_eq_true (show n + 1 ≤ 200 from by omega), decide_eq_true (by omega)]; rfl)
         | (rw [decide_eq_true (show d ≤ 20 from by omega), decide_eq_true (show n + 1 ≤ 200 from by omega), decide_eq_false (by omega)]; rfl)
         | (rw [decide_eq_true (show d ≤ 20 from by omega), decide_eq_false (show ¬ n + 1 ≤ 200 from by omega)]; rfl)
         | (rw [decide_eq_false (show ¬ d ≤ 20 from by omega)]; rfl)
     · exact kQ
    ·
     iterate 2 refine sV rfl rfl rfl ?_
     show TrP 24 _ _ _ _
     refine tH [(0, _), (1, _), (2, _), (3, _), (4, _), (6, _), (11, _)] ?_
     refine Tri.ret ?_
     refine ⟨trivial, _, rfl, ?_⟩
     have e2 : (stepL (n, l) (x, d)).2 = (n + 1, if x.kind = 4 then l + 1 else l) := rfl
     have e1 : (stepL (n, l) (x, d)).1 = (decide (d ≤ 20) && (decide (n + 1 ≤ 200) && decide ((if x.kind = 4 then l + 1 else l) ≤ 16))) := rfl
     rw [e1, e2]
     first
       | rw [if_pos h11]
       | rw [if_neg h11]
     refine ⟨congrArg (fun b => at' (.bool b)) ?_, gG, gG, ?_⟩
     · first
         | (rw [decide_eq_true (show d ≤ 20 from by omega), decide_eq_true (show n + 1 ≤ 200 from by omega), decide_eq_true (by omega)]; rfl)
         | (rw [decide_eq_true (show d ≤ 20 from by omega), decide_eq_true (show n + 1 ≤ 200 from by omega), decide_eq_false (by omega)]; rfl)
         | (rw [decide_eq_true (show d ≤ 20 from by omega), decide_eq_false (show ¬ n + 1 ≤ 200 from by omega)]; rfl)
         | (rw [decide_eq_false (show ¬ d ≤ 20 from by omega)]; rfl)
     · exact kQ
   ·
    iterate 2 refine sV rfl rfl rfl ?_
    iterate 2 refine sN rfl rfl ?_
    iterate 2 refine sV rfl rfl rfl ?_
    show TrP 24 _ _ _ _
    refine tH [(0, _), (1, _), (2, _), (3, _), (4, _), (6, _), (11, _)] ?_
    refine Tri.ret ?_
    refine ⟨trivial, _, rfl, ?_⟩
    have e2 : (stepL (n, l) (x, d)).2 = (n + 1, if x.kind = 4 then l + 1 else l) := rfl
    have e1 : (stepL (n, l) (x, d)).1 = (decide (d ≤ 20) && (decide (n + 1 ≤ 200) && decide ((if x.kind = 4 then l + 1 else l) ≤ 16))) := rfl
    rw [e1, e2]
    first
      | rw [if_pos h11]
      | rw [if_neg h11]
    refine ⟨congrArg (fun b => at' (.bool b)) ?_, gG, gG, ?_⟩
    · first
        | (rw [decide_eq_true (show d ≤ 20 from by omega), decide_eq_true (show n + 1 ≤ 200 from by omega), decide_eq_true (by omega)]; rfl)
        | (rw [decide_eq_true (show d ≤ 20 from by omega), decide_eq_true (show n + 1 ≤ 200 from by omega), decide_eq_false (by omega)]; rfl)
        | (rw [decide_eq_true (show d ≤ 20 from by omega), decide_eq_false (show ¬ n + 1 ≤ 200 from by omega)]; rfl)
        | (rw [decide_eq_false (show ¬ d ≤ 20 from by omega)]; rfl)
    · exact kQ
  ·
   refine sV rfl rfl rfl ?_
   iterate 2 refine sN rfl rfl ?_
   iterate 2 refine sV rfl rfl rfl ?_
   iterate 2 refine sN rfl rfl ?_
   iterate 2 refine sV rfl rfl rfl ?_
   show TrP 24 _ _ _ _
   refine tH [(0, _), (1, _), (2, _), (3, _), (4, _), (6, _), (11, _)] ?_
   refine Tri.ret ?_
   refine ⟨trivial, _, rfl, ?_⟩
   have e2 : (stepL (n, l) (x, d)).2 = (n + 1, if x.kind = 4 then l + 1 else l) := rfl
   have e1 : (stepL (n, l) (x, d)).1 = (decide (d ≤ 20) && (decide (n + 1 ≤ 200) && decide ((if x.kind = 4 then l + 1 else l) ≤ 16))) := rfl
   rw [e1, e2]
   first
     | rw [if_pos h11]
     | rw [if_neg h11]
   refine ⟨congrArg (fun b => at' (.bool b)) ?_, gG, gG, ?_⟩
   · first
       | (rw [decide_eq_true (show d ≤ 20 from by omega), decide_eq_true (show n + 1 ≤ 200 from by omega), decide_eq_true (by omega)]; rfl)
       | (rw [decide_eq_true (show d ≤ 20 from by omega), decide_eq_true (show n + 1 ≤ 200 from by omega), decide_eq_false (by omega)]; rfl)
       | (rw [decide_eq_true (show d ≤ 20 from by omega), decide_eq_false (show ¬ n + 1 ≤ 200 from by omega)]; rfl)
       | (rw [decide_eq_false (show ¬ d ≤ 20 from by omega)]; rfl)
   · exact kQ
 ·
  show TrP 24 _ _ _ _
  refine tH [(0, _), (1, _), (2, _), (3, _), (4, _), (6, _), (11, _)] ?_
  refine tF rfl ?_
  refine Tri.skip ?_
  show TrP 24 _ _ _ _
  refine tH [(0, _), (1, _), (2, _), (3, _), (4, _), (6, _), (11, _)] ?_
  refine Tri.seq ?_
  refine tR ?_
  refine sV rfl rfl rfl ?_
  refine sO rfl rfl (oP rfl (fun h15 => ?_) (fun h15 => ?_))
  ·
   refine sV rfl rfl rfl ?_
   refine sO rfl rfl (oLoad (x := .at _) rfl gG rfl ?_)
   refine sO rfl rfl (oP rfl (fun h18 => ?_) (fun h18 => ?_))
   ·
    iterate 2 refine sV rfl rfl rfl ?_
    refine sO rfl rfl (oLoad (x := .at _) rfl gG rfl ?_)
    refine sO rfl rfl (oP rfl (fun h22 => ?_) (fun h22 => ?_))
    ·
     iterate 2 refine sV rfl rfl rfl ?_
     show TrP 24 _ _ _ _
     refine tH [(0, _), (1, _), (2, _), (3, _), (4, _), (6, _), (11, _)] ?_
     refine Tri.ret ?_
     refine ⟨trivial, _, rfl, ?_⟩
     have e2 : (stepL (n, l) (x, d)).2 = (n + 1, if x.kind = 4 then l + 1 else l) := rfl
     have e1 : (stepL (n, l) (x, d)).1 = (decide (d ≤ 20) && (decide (n + 1 ≤ 200) && decide ((if x.kind = 4 then l + 1 else l) ≤ 16))) := rfl
     rw [e1, e2]
     first
       | rw [if_pos h11]
       | rw [if_neg h11]
     refine ⟨congrArg (fun b => at' (.bool b)) ?_, gG, gG, ?_⟩
     · first
         | (rw [decide_eq_true (show d ≤ 20 from by omega), decide_eq_true (show n + 1 ≤ 200 from by omega), decide_eq_true (by omega)]; rfl)
         | (rw [decide_eq_true (show d ≤ 20 from by omega), decide_eq_true (show n + 1 ≤ 200 from by omega), decide_eq_false (by omega)]; rfl)
         | (rw [decide_eq_true (show d ≤ 20 from by omega), decide_eq_false (show ¬ n + 1 ≤ 200 from by omega)]; rfl)
         | (rw [decide_eq_false (show ¬ d ≤ 20 from by omega)]; rfl)
     · exact kQ
    ·
     iterate 2 refine sV rfl rfl rfl ?_
     show TrP 24 _ _ _ _
     refine tH [(0, _), (1, _), (2, _), (3, _), (4, _), (6, _), (11, _)] ?_
     refine Tri.ret ?_
     refine ⟨trivial, _, rfl, ?_⟩
     have e2 : (stepL (n, l) (x, d)).2 = (n + 1, if x.kind = 4 then l + 1 else l) := rfl
     have e1 : (stepL (n, l) (x, d)).1 = (decide (d ≤ 20) && (decide (n + 1 ≤ 200) && decide ((if x.kind = 4 then l + 1 else l) ≤ 16))) := rfl
     rw [e1, e2]
     first
       | rw [if_pos h11]
       | rw [if_neg h11]
     refine ⟨congrArg (fun b => at' (.bool b)) ?_, gG, gG, ?_⟩
     · first
         | (rw [decide_eq_true (show d ≤ 20 from by omega), decide_eq_true (show n + 1 ≤ 200 from by omega), decide_eq_true (by omega)]; rfl)
         | (rw [decide_eq_true (show d ≤ 20 from by omega), decide_eq_true (show n + 1 ≤ 200 from by omega), decide_eq_false (by omega)]; rfl)
         | (rw [decide_eq_true (show d ≤ 20 from by omega), decide_eq_false (show ¬ n + 1 ≤ 200 from by omega)]; rfl)
         | (rw [decide_eq_false (show ¬ d ≤ 20 from by omega)]; rfl)
     · exact kQ
   ·
    iterate 2 refine sV rfl rfl rfl ?_
    iterate 2 refine sN rfl rfl ?_
    iterate 2 refine sV rfl rfl rfl ?_
    show TrP 24 _ _ _ _
    refine tH [(0, _), (1, _), (2, _), (3, _), (4, _), (6, _), (11, _)] ?_
    refine Tri.ret ?_
    refine ⟨trivial, _, rfl, ?_⟩
    have e2 : (stepL (n, l) (x, d)).2 = (n + 1, if x.kind = 4 then l + 1 else l) := rfl
    have e1 : (stepL (n, l) (x, d)).1 = (decide (d ≤ 20) && (decide (n + 1 ≤ 200) && decide ((if x.kind = 4 then l + 1 else l) ≤ 16))) := rfl
    rw [e1, e2]
    first
      | rw [if_pos h11]
      | rw [if_neg h11]
    refine ⟨congrArg (fun b => at' (.bool b)) ?_, gG, gG, ?_⟩
    · first
        | (rw [decide_eq_true (show d ≤ 20 from by omega), decide_eq_true (show n + 1 ≤ 200 from by omega), decide_eq_true (by omega)]; rfl)
        | (rw [decide_eq_true (show d ≤ 20 from by omega), decide_eq_true (show n + 1 ≤ 200 from by omega), decide_eq_false (by omega)]; rfl)
        | (rw [decide_eq_true (show d ≤ 20 from by omega), decide_eq_false (show ¬ n + 1 ≤ 200 from by omega)]; rfl)
        | (rw [decide_eq_false (show ¬ d ≤ 20 from by omega)]; rfl)
    · exact kQ
  ·
   refine sV rfl rfl rfl ?_
   iterate 2 refine sN rfl rfl ?_
   iterate 2 refine sV rfl rfl rfl ?_
   iterate 2 refine sN rfl rfl ?_
   iterate 2 refine sV rfl rfl rfl ?_
   show TrP 24 _ _ _ _
   refine tH [(0, _), (1, _), (2, _), (3, _), (4, _), (6, _), (11, _)] ?_
   refine Tri.ret ?_
   refine ⟨trivial, _, rfl, ?_⟩
   have e2 : (stepL (n, l) (x, d)).2 = (n + 1, if x.kind = 4 then l + 1 else l) := rfl
   have e1 : (stepL (n, l) (x, d)).1 = (decide (d ≤ 20) && (decide (n + 1 ≤ 200) && decide ((if x.kind = 4 then l + 1 else l) ≤ 16))) := rfl
   rw [e1, e2]
   first
     | rw [if_pos h11]
     | rw [if_neg h11]
   refine ⟨congrArg (fun b => at' (.bool b)) ?_, gG, gG, ?_⟩
   · first
       | (rw [decide_eq_true (show d ≤ 20 from by omega), decide_eq_true (show n + 1 ≤ 200 from by omega), decide_eq_true (by omega)]; rfl)
       | (rw [decide_eq_true (show d ≤ 20 from by omega), decide_eq_true (show n + 1 ≤ 200 from by omega), decide_eq_false (by omega)]; rfl)
       | (rw [decide_eq_true (show d ≤ 20 from by omega), decide_eq_false (show ¬ n + 1 ≤ 200 from by omega)]; rfl)
       | (rw [decide_eq_false (show ¬ d ≤ 20 from by omega)]; rfl)
   · exact kQ
theorem limD_ok (e : Exp) (d : Nat) (cs : List AT) (H L : Heap) (hL : LX L e cs) : Sim Try.prog 31 [.one (.agg cs), at' (.int .i64 d)] H (fun u G => u = at' (.bool (decide (d ≤ 20))) ∧ G = H) := by
 obtain ⟨p, rfl, hk⟩ := hL.out
 refine Sim.trim ?_
 refine Sim.of_tri Try.func31 rfl ?_
 show TrP 7 _ _ _ _
 refine Tri.seq ?_
 refine tR ?_
 refine sO rfl rfl (oBox (cs := [_, _, _, _, _]) rfl rfl ?_)
 refine sV rfl rfl rfl ?_
 show TrP 7 _ _ _ _
 refine tH [(0, _), (1, _), (4, _)] ?_
 refine Tri.seq ?_
 refine tR ?_
 refine sV rfl rfl rfl ?_
 refine sO rfl rfl (oP rfl (fun h6 => ?_) (fun h6 => ?_))
 ·
  refine sV rfl rfl rfl ?_
  show TrP 7 _ _ _ _
  refine tH [(0, _), (1, _), (4, _)] ?_
  refine Tri.ret ?_
  refine ⟨trivial, _, rfl, ?_⟩
  first
    | (rw [decide_eq_true (show d ≤ 20 from by omega)]; exact ⟨kP, rfl, rfl⟩)
    | (rw [decide_eq_false (show ¬ d ≤ 20 from by omega)]; exact ⟨kP, rfl, rfl⟩)
 ·
  refine sV rfl rfl rfl ?_
  show TrP 7 _ _ _ _
  refine tH [(0, _), (1, _), (4, _)] ?_
  refine Tri.ret ?_
  refine ⟨trivial, _, rfl, ?_⟩
  first
    | (rw [decide_eq_true (show d ≤ 20 from by omega)]; exact ⟨kP, rfl, rfl⟩)
    | (rw [decide_eq_false (show ¬ d ≤ 20 from by omega)]; exact ⟨kP, rfl, rfl⟩)
theorem cloL {H0 : Heap} {idn idl : Nat} (hn : H0.n ≤ idn) (hl : H0.n ≤ idl) (hne : idn ≠ idl) : Clo LM htS H0 29 [(idn, 0), (idl, 0)] [idn, idl]
    (fun (s : Nat × Nat) G => Kp [] H0 G ∧ G.get idn = some (.cells 3 1 [.int .i64 (s.1 : Nat)]) ∧ G.get idl = some (.cells 3 1 [.int .i64 (s.2 : Nat)]) ∧ s.1 ≤ 200 ∧ s.2 ≤ 16) stepL :=
  ⟨fnOk_of Try.func29 (by decide) rfl, fun s H H' ⟨h1, h2, h3, h4⟩ k => ⟨h1.trans0 k, k.get h2 rfl, k.get h3 rfl, h4⟩, fun s H h => h.1,
   fun s H h i hi => by
    simp only [List.mem_cons, List.not_mem_nil, or_false] at hi
    rcases hi with rfl | rfl
    · exact Heap.get_lt h.2.1
    · exact Heap.get_lt h.2.2.1,
   fun s a d H cs ⟨h1, h2, h3, h4, h5⟩ hr _ => (limS_ok a d s.1 s.2 cs idn idl H H0 hr h2 h3 hne h4 h5).mono fun u G ⟨g1, g2, g3, g4⟩ => ⟨g1, fun hb => by
    refine ⟨h1.trans g4 fun i hi => .inr ?_, g2, g3, ?_⟩
    · simp only [List.mem_cons, List.not_mem_nil, or_false] at hi
      rcases hi with rfl | rfl <;> assumption
    · have hb : (decide (d ≤ 20) && (decide (s.1 + 1 ≤ 200) && decide ((if a.kind = 4 then s.2 + 1 else s.2) ≤ 16))) = true := hb
      simp only [Bool.and_eq_true, decide_eq_true_eq] at hb
      exact ⟨hb.2.1, hb.2.2⟩, g4⟩⟩
theorem cloD (H : Heap) : Clo LX htE H 31 [] [] (fun (_ : Unit) G => Kp [] H G) stepD :=
  ⟨fnOk_of Try.func31 (by decide) rfl, fun _ _ _ h k => h.trans0 k, fun _ _ h => h, fun _ _ _ i hi => (by cases hi), fun s a d G cs h hr _ => (limD_ok a d cs G H hr).mono fun u G' ⟨h1, h2⟩ => ⟨h1, fun _ => (by rw [h2]; exact h), by rw [h2]; exact Kp.refl⟩⟩
noncomputable def limF (f : Fn1) : Bool := decide ((f.params.length : Int) ≤ 6) && (decide ((f.locals.length : Int) ≤ 8) && ((runL stepL (0, 0) (preSl 0 f.body)).1 && (runF stepD () f).1))
def limA (a : Ar) : Bool := !decide (a.len < 1) && !decide (a.len > 16)
noncomputable def limP (p : Pr) : Bool := !decide ((p.arrays.length : Int) > 4) && (!decide ((p.funcs.length : Int) > 8) && (p.arrays.all limA && p.funcs.all limF))
theorem limF_call {f : Fn1} {H : Heap} {cs : List AT} (hL : LFn H f cs) (hl : Low f) {G : Heap} (hk : Kp [] H G) : Sim Try.prog 30 [.one (.agg cs), at' (.fn 31 [])] G fun u G' => u = at' (.bool (runF stepD () f).1) ∧ Kp [] G G' :=
  (walkExprs_ok (cloD H) f hl () G cs hk hL).mono fun u G' ⟨h1, _, h3⟩ => ⟨h1, h3⟩

theorem withinLimits_ok (p : Pr) (cs : List AT) (H : Heap) (hL : LPr H p cs) (hlow : LowP p) : Sim Try.prog 14 [.one (.agg cs)] H (fun u G => u = at' (.bool (limP p)) ∧ G = H) := by
 obtain ⟨pa, pf, rfl, hA, hF⟩ := hL
 obtain ⟨hlow1, hlow2, hlow3⟩ := hlow
 refine Sim.trim ?_
 refine Sim.of_tri Try.func14 rfl ?_
 show TrP 68 _ _ _ _
 refine Tri.seq ?_
 refine tR ?_
 refine sO rfl rfl (oBox (cs := [_, _]) rfl rfl ?_)
 refine sV rfl rfl rfl ?_
 show TrP 68 _ _ _ _
 refine tH [(0, _), (1, _), (2, _)] ?_
 refine Tri.seq ?_
 refine Tri.seq ?_
 refine tR ?_
 refine sO rfl rfl (oW (at' (.ptr (some (_, 0)))) rfl rfl ?_)
 refine sO rfl rfl (oLoad (x := .at _) rfl gG rfl ?_)
 refine sV rfl rfl rfl ?_
 refine sO rfl rfl (oP rfl (fun h13 => ?_) (fun h13 => ?_))
 ·
  refine sV rfl rfl rfl ?_
  iterate 4 refine sN rfl rfl ?_
  refine sV rfl rfl rfl ?_
  show TrP 68 _ _ _ _
  refine tH [(0, _), (1, _), (2, _), (19, _)] ?_
  refine tT rfl ?_
  refine Tri.seq ?_
  refine tR ?_
  refine sV rfl rfl rfl ?_
  show TrP 68 _ _ _ _
  refine tH [(0, _), (1, _), (2, _), (19, _)] ?_
  refine Tri.ret ?_
  refine ⟨trivial, _, rfl, ?_⟩
  have e : limP p = false := by unfold limP; simp only [*, ne_eq, not_false_eq_true, decide_true, decide_false, if_true, if_false, Bool.not_true, Bool.not_false, Bool.and_true, Bool.true_and, Bool.and_false, Bool.false_and]
  rw [e]; exact ⟨kZ, rfl, rfl⟩
 ·
  refine sV rfl rfl rfl ?_
  refine sO rfl rfl (oW (at' (.ptr (some (_, 1)))) rfl rfl ?_)
  refine sO rfl rfl (oLoad (x := .at _) rfl gG rfl ?_)
  refine sV rfl rfl rfl ?_
  refine sO rfl rfl (oP rfl (fun h18 => ?_) (fun h18 => ?_))
  ·
   refine sV rfl rfl rfl ?_
   show TrP 68 _ _ _ _
   refine tH [(0, _), (1, _), (2, _), (19, _)] ?_
   refine tT rfl ?_
   refine Tri.seq ?_
   refine tR ?_
   refine sV rfl rfl rfl ?_
   show TrP 68 _ _ _ _
   refine tH [(0, _), (1, _), (2, _), (19, _)] ?_
   refine Tri.ret ?_
   refine ⟨trivial, _, rfl, ?_⟩
   have e : limP p = false := by unfold limP; simp only [*, ne_eq, not_false_eq_true, decide_true, decide_false, if_true, if_false, Bool.not_true, Bool.not_false, Bool.and_true, Bool.true_and, Bool.and_false, Bool.false_and]
   rw [e]; exact ⟨kZ, rfl, rfl⟩
  ·
   refine sV rfl rfl rfl ?_
   show TrP 68 _ _ _ _
   refine tH [(0, _), (1, _), (2, _), (19, _)] ?_
   refine tF rfl ?_
   refine Tri.skip ?_
   show TrP 68 _ _ _ _
   refine tH [(0, _), (1, _), (2, _), (19, _)] ?_
   refine Tri.seq ?_
   refine Tri.seq ?_
   refine tR ?_
   refine sO rfl rfl (oW (at' (.ptr (some (_, 0)))) rfl rfl ?_)
   refine sO rfl rfl (oLoad (x := .at _) rfl gG rfl ?_)
   iterate 2 refine sV rfl rfl rfl ?_
   show TrP 68 _ _ _ _
   refine tH [(0, _), (1, _), (2, _), (19, _), (21, _), (22, _), (23, _)] ?_
   refine Tri.block ?_
   refine Tri.loop (fun k lk1 H1 => ∃ j : Nat, k = p.arrays.length - j ∧ j ≤ p.arrays.length ∧ (p.arrays.take j).all limA = true ∧ Kp [] H H1 ∧ H1.get H.n = some (.cells 32 1 [.slice pa p.arrays.length, .slice pf p.funcs.length]) ∧ Has lk1 [(1, at' (.ptr (some (H.n, 0)))), (21, at' (.slice pa p.arrays.length)), (22, at' (.int .i64 p.arrays.length)), (23, at' (.int .i64 j))]) (p.arrays.length) (⟨0, rfl, by omega, by simp, kP, gG, ⟨rfl, rfl, rfl, rfl, trivial⟩⟩) ?_
   rintro k lk1 H1 ⟨j, hk3, hj, hall, hkp, hcell, hh⟩
   refine Tri.has hh ?_
   have hkpn := hkp.n
   have hlt := Heap.get_lt hcell
   refine Tri.seq ?_
   refine tR ?_
   refine sO rfl rfl (oP rfl (fun h24 => ?_) (fun h24 => ?_))
   ·
    show TrP 68 _ _ _ _
    refine tH [(1, _), (21, _), (22, _), (23, _), (24, _)] ?_
    refine Tri.seq ?_
    refine tT rfl ?_
    refine Tri.skip ?_
    show TrP 68 _ _ _ _
    refine tH [(1, _), (21, _), (22, _), (23, _), (24, _)] ?_
    refine Tri.seq ?_
    refine Tri.block ?_
    refine Tri.seq ?_
    refine tR ?_
    obtain ⟨x, hx⟩ : ∃ x, p.arrays[j]? = some x := ⟨_, List.getElem?_eq_getElem (by omega)⟩
    obtain ⟨id, o, T, q, c, rfl, hg0, hle, hcs⟩ := hA.at hx
    have hg := hkp.get hg0 rfl
    refine sO rfl rfl (oIA (z := 2) rfl rfl rfl rfl (by omega) ?_)
    refine sO rfl rfl (oLoad (x := .agg [.str x.name, .int .i64 x.len]) rfl gG (part_all hcs hle rfl rfl rfl) ?_)
    refine sO rfl rfl (oAlloc (cs := [.str [], .int .i64 0]) rfl rfl ?_)
    refine sO rfl rfl (oStore (n := 2) (cs' := [_, _]) rfl rfl rfl gG rfl (Nat.le_of_ble_eq_true rfl) rfl rfl ?_)
    show TrP 68 _ _ _ _
    refine tH [(1, _), (4, _), (21, _), (22, _), (23, _), (24, _)] ?_
    refine Tri.seq ?_
    refine tR ?_
    refine sO rfl rfl (oW (at' (.ptr (some (_, 1)))) rfl rfl ?_)
    refine sO rfl rfl (oLoad (x := .at _) rfl gG rfl ?_)
    refine sO rfl rfl (oP rfl (fun h29 => ?_) (fun h29 => ?_))
    ·
     refine sV rfl rfl rfl ?_
     iterate 3 refine sN rfl rfl ?_
     refine sV rfl rfl rfl ?_
     show TrP 68 _ _ _ _
     refine tH [(1, _), (4, _), (21, _), (22, _), (23, _), (24, _), (34, _)] ?_
     refine tT rfl ?_
     refine Tri.seq ?_
     refine tR ?_
     refine sV rfl rfl rfl ?_
     show TrP 68 _ _ _ _
     refine tH [(1, _), (2, _), (4, _), (21, _), (22, _), (23, _), (24, _), (34, _)] ?_
     refine Tri.ret ?_
     refine ⟨trivial, _, rfl, ?_⟩
     have e0 : limA x = false := by unfold limA; simp only [*, ne_eq, not_false_eq_true, decide_true, decide_false, if_true, if_false, Bool.not_true, Bool.not_false, Bool.and_true, Bool.true_and, Bool.and_false, Bool.false_and]
     have e : limP p = false := by unfold limP; rw [all_no hx e0]; simp
     rw [e]; exact ⟨hkp.trans0 kZ, rfl, rfl⟩
    ·
     refine sV rfl rfl rfl ?_
     refine sO rfl rfl (oW (at' (.ptr (some (_, 1)))) rfl rfl ?_)
     refine sO rfl rfl (oLoad (x := .at _) rfl gG rfl ?_)
     refine sO rfl rfl (oP rfl (fun h33 => ?_) (fun h33 => ?_))
     ·
      refine sV rfl rfl rfl ?_
      show TrP 68 _ _ _ _
      refine tH [(1, _), (4, _), (21, _), (22, _), (23, _), (24, _), (34, _)] ?_
      refine tT rfl ?_
      refine Tri.seq ?_
      refine tR ?_
      refine sV rfl rfl rfl ?_
      show TrP 68 _ _ _ _
      refine tH [(1, _), (2, _), (4, _), (21, _), (22, _), (23, _), (24, _), (34, _)] ?_
      refine Tri.ret ?_
      refine ⟨trivial, _, rfl, ?_⟩
      have e0 : limA x = false := by unfold limA; simp only [*, ne_eq, not_false_eq_true, decide_true, decide_false, if_true, if_false, Bool.not_true, Bool.not_false, Bool.and_true, Bool.true_and, Bool.and_false, Bool.false_and]
      have e : limP p = false := by unfold limP; rw [all_no hx e0]; simp
      rw [e]; exact ⟨hkp.trans0 kZ, rfl, rfl⟩
     ·
      refine sV rfl rfl rfl ?_
      show TrP 68 _ _ _ _
      refine tH [(1, _), (4, _), (21, _), (22, _), (23, _), (24, _), (34, _)] ?_
      refine tF rfl ?_
      refine Tri.skip ?_
      show TrP 68 _ _ _ _
      refine tH [(1, _), (4, _), (21, _), (22, _), (23, _), (24, _), (34, _)] ?_
      refine tR ?_
      refine sO rfl rfl (oAdd (m := 1) rfl (by omega) ?_)
      refine sV rfl rfl rfl ?_
      have e0 : limA x = true := by unfold limA; simp only [*, ne_eq, not_false_eq_true, decide_true, decide_false, if_true, if_false, Bool.not_true, Bool.not_false, Bool.and_true, Bool.true_and, Bool.and_false, Bool.false_and]
      exact ⟨p.arrays.length - (j + 1), by omega, j + 1, rfl, by omega, all_snoc hall hx e0, hkp.trans0 kZ, gG, ⟨rfl, rfl, rfl, rfl, trivial⟩⟩
   ·
    show TrP 68 _ _ _ _
    refine tH [(1, _), (21, _), (22, _), (23, _), (24, _)] ?_
    refine Tri.seq ?_
    refine tF rfl ?_
    refine Tri.exit ?_
    show TrP 68 _ _ _ _
    refine tH [(1, _), (21, _), (22, _), (23, _), (24, _)] ?_
    refine Tri.seq ?_
    refine Tri.seq ?_
    refine tR ?_
    refine sO rfl rfl (oW (at' (.ptr (some (_, 1)))) rfl rfl ?_)
    refine sO rfl rfl (oLoad (x := .at _) rfl gG rfl ?_)
    iterate 2 refine sV rfl rfl rfl ?_
    show TrP 68 _ _ _ _
    refine tH [(1, _), (21, _), (22, _), (23, _), (24, _), (37, _), (38, _), (39, _)] ?_
    refine Tri.block ?_
    refine Tri.loop (fun k lk1 H1 => ∃ j : Nat, k = p.funcs.length - j ∧ j ≤ p.funcs.length ∧ (p.funcs.take j).all limF = true ∧ Kp [] H H1 ∧ Has lk1 [(37, at' (.slice pf p.funcs.length)), (38, at' (.int .i64 p.funcs.length)), (39, at' (.int .i64 j))]) (p.funcs.length) (⟨0, rfl, by omega, by simp, hkp, ⟨rfl, rfl, rfl, trivial⟩⟩) ?_
    rintro k lk1 H1 ⟨j, hk4, hj, hall2, hkp, hh⟩
    refine Tri.has hh ?_
    have hkpn := hkp.n
    refine Tri.seq ?_
    refine tR ?_
    refine sO rfl rfl (oP rfl (fun h40 => ?_) (fun h40 => ?_))
    ·
     show TrP 68 _ _ _ _
     refine tH [(37, _), (38, _), (39, _), (40, _)] ?_
     refine Tri.seq ?_
     refine tT rfl ?_
     refine Tri.skip ?_
     show TrP 68 _ _ _ _
     refine tH [(37, _), (38, _), (39, _), (40, _)] ?_
     refine Tri.seq ?_
     refine Tri.block ?_
     refine Tri.seq ?_
     refine tR ?_
     obtain ⟨f, hf⟩ : ∃ f, p.funcs[j]? = some f := ⟨_, List.getElem?_eq_getElem (by omega)⟩
     obtain ⟨hv, hv4, hv5⟩ := hlow3 f (List.mem_of_getElem? hf)
     obtain ⟨hv1, hv2, hv3⟩ := hv
     obtain ⟨id, o, T, q, c, rfl, hg0, hle, hLf⟩ := hF.at hf
     have hg := hkp.get hg0 rfl
     obtain ⟨pp, pl, pb, b1, b2, b3, b4, b5, nb, hcs, hpar, hloc, hbody, hval⟩ := hLf.out
     refine sO rfl rfl (oIA (z := 9) rfl rfl rfl rfl (by omega) ?_)
     refine sO rfl rfl (oLoad (x := .agg [.str f.name, .slice pp f.params.length, .slice pl f.locals.length, .slice pb f.body.length, .int .i64 b1, .int .i64 b2, .str b3, .int .i64 b4, .slice b5 nb]) rfl gG (part_all hcs hle rfl rfl rfl) ?_)
     refine sO rfl rfl (oAlloc (cs := [.str [], .slice none 0, .slice none 0, .slice none 0, .int .i64 0, .int .i64 0, .str [], .int .i64 0, .slice none 0]) rfl rfl ?_)
     refine sO rfl rfl (oStore (n := 9) (cs' := [_, _, _, _, _, _, _, _, _]) rfl rfl rfl gG rfl (Nat.le_of_ble_eq_true rfl) rfl rfl ?_)
     show TrP 68 _ _ _ _
     refine tH [(6, _), (37, _), (38, _), (39, _), (40, _)] ?_
     refine Tri.seq ?_
     refine tR ?_
     refine sO rfl rfl (oAlloc (cs := [.int .i64 0]) rfl rfl ?_)
     refine sO rfl rfl (oAlloc (cs := [.int .i64 0]) rfl rfl ?_)
     refine sO rfl rfl (oStore (n := 1) (cs' := [_]) rfl rfl rfl gG rfl (Nat.le_of_ble_eq_true rfl) rfl rfl ?_)
     refine sO rfl rfl (oStore (n := 1) (cs' := [_]) rfl rfl rfl gG rfl (Nat.le_of_ble_eq_true rfl) rfl rfl ?_)
     show TrP 68 _ _ _ _
     refine tH [(6, _), (7, _), (8, _), (37, _), (38, _), (39, _), (40, _)] ?_
     refine Tri.seq ?_
     refine tR ?_
     refine sO rfl rfl (oW (at' (.ptr (some (_, 1)))) rfl rfl ?_)
     refine sO rfl rfl (oLoad (x := .at _) rfl gG rfl ?_)
     refine sV rfl rfl rfl ?_
     refine sO rfl rfl (oP rfl (fun h46 => ?_) (fun h46 => ?_))
     ·
      refine sV rfl rfl rfl ?_
      refine sO rfl rfl (oW (at' (.ptr (some (_, 2)))) rfl rfl ?_)
      refine sO rfl rfl (oLoad (x := .at _) rfl gG rfl ?_)
      refine sV rfl rfl rfl ?_
      refine sO rfl rfl (oP rfl (fun h51 => ?_) (fun h51 => ?_))
      ·
       iterate 2 refine sV rfl rfl rfl ?_
       show TrP 68 _ _ _ _
       refine tH [(6, _), (7, _), (8, _), (9, _), (37, _), (38, _), (39, _), (40, _)] ?_
       refine Tri.seq ?_
       refine tR ?_
       iterate 2 refine sV rfl rfl rfl ?_
       refine sO rfl rfl (oW (at' (.ptr (some (_, 3)))) rfl rfl ?_)
       refine sO rfl rfl (oLoad (x := .at _) rfl gG rfl ?_)
       refine sV rfl rfl rfl ?_
       refine sO rfl rfl (oCB rfl (fnOk_of Try.func28 (by decide) rfl) (walkStmts_ok (cloL (H0 := H) (by simp only [Heap.n_push, Heap.n_set]; omega) (by simp only [Heap.n_push, Heap.n_set]; omega) (by simp only [Heap.n_push, Heap.n_set]; omega)) 2305843009213693952 f.body (0, 0) 0 _ _ hv2 ⟨hkp.trans0 kZ, gG, gG, Nat.zero_le _, Nat.zero_le _⟩ hbody (Nat.le_refl _) (by omega) (by omega)) (fun G1 hK h58 => ?_) (fun G1 hK h58 => ?_))
       ·
        have hc6 : G1.get H1.n = some (.cells 28 1 [.str f.name, .slice pp f.params.length, .slice pl f.locals.length, .slice pb f.body.length, .int .i64 b1, .int .i64 b2, .str b3, .int .i64 b4, .slice b5 nb]) := hK.2.g _ _ gG rfl (by simp only [List.mem_cons, List.not_mem_nil, or_false, not_or, Heap.n_push, Heap.n_set]; omega)
        have hkp1 : Kp [] H G1 := (hkp.trans0 kZ).trans hK.2 (fun i hi => .inr (by simp only [List.mem_cons, List.not_mem_nil, or_false] at hi; rcases hi with rfl | rfl <;> (simp only [Heap.n_push, Heap.n_set]; omega)))
        have hlt1 := Heap.get_lt hc6
        iterate 2 refine sV rfl rfl rfl ?_
        show TrP 68 _ _ _ _
        refine tH [(6, _), (7, _), (8, _), (9, _), (37, _), (38, _), (39, _), (40, _)] ?_
        refine Tri.seq ?_
        refine tR ?_
        iterate 3 refine sV rfl rfl rfl ?_
        refine sO rfl rfl (oLoad (x := .agg [.str f.name, .slice pp f.params.length, .slice pl f.locals.length, .slice pb f.body.length, .int .i64 b1, .int .i64 b2, .str b3, .int .i64 b4, .slice b5 nb]) rfl gG rfl ?_)
        refine sO rfl rfl (oCB rfl (fnOk_of Try.func30 (by decide) rfl) (limF_call (f := f) (by rw [hcs] at hLf; exact hLf) ⟨hv1, hv2, hv3⟩ hkp1) (fun G2 hK2 h64 => ?_) (fun G2 hK2 h64 => ?_))
        ·
         iterate 2 refine sV rfl rfl rfl ?_
         show TrP 68 _ _ _ _
         refine tH [(6, _), (7, _), (8, _), (9, _), (37, _), (38, _), (39, _), (40, _), (66, _)] ?_
         refine tF rfl ?_
         refine Tri.skip ?_
         show TrP 68 _ _ _ _
         refine tH [(6, _), (7, _), (8, _), (9, _), (37, _), (38, _), (39, _), (40, _), (66, _)] ?_
         refine tR ?_
         refine sO rfl rfl (oAdd (m := 1) rfl (by omega) ?_)
         refine sV rfl rfl rfl ?_
         have e0 : limF f = true := by unfold limF; simp only [*, ne_eq, not_false_eq_true, decide_true, decide_false, if_true, if_false, Bool.not_true, Bool.not_false, Bool.and_true, Bool.true_and, Bool.and_false, Bool.false_and]
         exact ⟨p.funcs.length - (j + 1), by omega, j + 1, rfl, by omega, all_snoc hall2 hf e0, hkp1.trans0 hK2, ⟨rfl, rfl, rfl, trivial⟩⟩
        ·
         iterate 2 refine sV rfl rfl rfl ?_
         show TrP 68 _ _ _ _
         refine tH [(6, _), (7, _), (8, _), (9, _), (37, _), (38, _), (39, _), (40, _), (66, _)] ?_
         refine tT rfl ?_
         refine Tri.seq ?_
         refine tR ?_
         refine sV rfl rfl rfl ?_
         show TrP 68 _ _ _ _
         refine tH [(2, _), (6, _), (7, _), (8, _), (9, _), (37, _), (38, _), (39, _), (40, _), (66, _)] ?_
         refine Tri.ret ?_
         refine ⟨trivial, _, rfl, ?_⟩
         have e0 : limF f = false := by unfold limF; simp only [*, ne_eq, not_false_eq_true, decide_true, decide_false, if_true, if_false, Bool.not_true, Bool.not_false, Bool.and_true, Bool.true_and, Bool.and_false, Bool.false_and]
         have e : limP p = false := by unfold limP; rw [all_no hf e0]; simp
         rw [e]
         first
           | exact ⟨hkp1.trans0 hK2, rfl, rfl⟩
           | exact ⟨hkp1, rfl, rfl⟩
           | exact ⟨hkp.trans0 kZ, rfl, rfl⟩
       ·
        have hc6 : G1.get H1.n = some (.cells 28 1 [.str f.name, .slice pp f.params.length, .slice pl f.locals.length, .slice pb f.body.length, .int .i64 b1, .int .i64 b2, .str b3, .int .i64 b4, .slice b5 nb]) := hK.2.g _ _ gG rfl (by simp only [List.mem_cons, List.not_mem_nil, or_false, not_or, Heap.n_push, Heap.n_set]; omega)
        have hkp1 : Kp [] H G1 := (hkp.trans0 kZ).trans hK.2 (fun i hi => .inr (by simp only [List.mem_cons, List.not_mem_nil, or_false] at hi; rcases hi with rfl | rfl <;> (simp only [Heap.n_push, Heap.n_set]; omega)))
        have hlt1 := Heap.get_lt hc6
        iterate 2 refine sV rfl rfl rfl ?_
        show TrP 68 _ _ _ _
        refine tH [(6, _), (7, _), (8, _), (9, _), (37, _), (38, _), (39, _), (40, _)] ?_
        refine Tri.seq ?_
        refine tR ?_
        iterate 3 refine sV rfl rfl rfl ?_
        iterate 3 refine sN rfl rfl ?_
        refine sV rfl rfl rfl ?_
        show TrP 68 _ _ _ _
        refine tH [(6, _), (7, _), (8, _), (9, _), (37, _), (38, _), (39, _), (40, _), (66, _)] ?_
        refine tT rfl ?_
        refine Tri.seq ?_
        refine tR ?_
        refine sV rfl rfl rfl ?_
        show TrP 68 _ _ _ _
        refine tH [(2, _), (6, _), (7, _), (8, _), (9, _), (37, _), (38, _), (39, _), (40, _), (66, _)] ?_
        refine Tri.ret ?_
        refine ⟨trivial, _, rfl, ?_⟩
        have e0 : limF f = false := by unfold limF; simp only [*, ne_eq, not_false_eq_true, decide_true, decide_false, if_true, if_false, Bool.not_true, Bool.not_false, Bool.and_true, Bool.true_and, Bool.and_false, Bool.false_and]
        have e : limP p = false := by unfold limP; rw [all_no hf e0]; simp
        rw [e]
        first
          | exact ⟨hkp1.trans0 hK2, rfl, rfl⟩
          | exact ⟨hkp1, rfl, rfl⟩
          | exact ⟨hkp.trans0 kZ, rfl, rfl⟩
      ·
       iterate 2 refine sV rfl rfl rfl ?_
       show TrP 68 _ _ _ _
       refine tH [(6, _), (7, _), (8, _), (9, _), (37, _), (38, _), (39, _), (40, _)] ?_
       refine Tri.seq ?_
       refine tR ?_
       iterate 2 refine sV rfl rfl rfl ?_
       iterate 4 refine sN rfl rfl ?_
       iterate 2 refine sV rfl rfl rfl ?_
       show TrP 68 _ _ _ _
       refine tH [(6, _), (7, _), (8, _), (9, _), (37, _), (38, _), (39, _), (40, _)] ?_
       refine Tri.seq ?_
       refine tR ?_
       iterate 3 refine sV rfl rfl rfl ?_
       iterate 3 refine sN rfl rfl ?_
       refine sV rfl rfl rfl ?_
       show TrP 68 _ _ _ _
       refine tH [(6, _), (7, _), (8, _), (9, _), (37, _), (38, _), (39, _), (40, _), (66, _)] ?_
       refine tT rfl ?_
       refine Tri.seq ?_
       refine tR ?_
       refine sV rfl rfl rfl ?_
       show TrP 68 _ _ _ _
       refine tH [(2, _), (6, _), (7, _), (8, _), (9, _), (37, _), (38, _), (39, _), (40, _), (66, _)] ?_
       refine Tri.ret ?_
       refine ⟨trivial, _, rfl, ?_⟩
       have e0 : limF f = false := by unfold limF; simp only [*, ne_eq, not_false_eq_true, decide_true, decide_false, if_true, if_false, Bool.not_true, Bool.not_false, Bool.and_true, Bool.true_and, Bool.and_false, Bool.false_and]
       have e : limP p = false := by unfold limP; rw [all_no hf e0]; simp
       rw [e]
       first
         | exact ⟨hkp1.trans0 hK2, rfl, rfl⟩
         | exact ⟨hkp1, rfl, rfl⟩
         | exact ⟨hkp.trans0 kZ, rfl, rfl⟩
     ·
      refine sV rfl rfl rfl ?_
      iterate 4 refine sN rfl rfl ?_
      iterate 2 refine sV rfl rfl rfl ?_
      show TrP 68 _ _ _ _
      refine tH [(6, _), (7, _), (8, _), (9, _), (37, _), (38, _), (39, _), (40, _)] ?_
      refine Tri.seq ?_
      refine tR ?_
      iterate 2 refine sV rfl rfl rfl ?_
      iterate 4 refine sN rfl rfl ?_
      iterate 2 refine sV rfl rfl rfl ?_
      show TrP 68 _ _ _ _
      refine tH [(6, _), (7, _), (8, _), (9, _), (37, _), (38, _), (39, _), (40, _)] ?_
      refine Tri.seq ?_
      refine tR ?_
      iterate 3 refine sV rfl rfl rfl ?_
      iterate 3 refine sN rfl rfl ?_
      refine sV rfl rfl rfl ?_
      show TrP 68 _ _ _ _
      refine tH [(6, _), (7, _), (8, _), (9, _), (37, _), (38, _), (39, _), (40, _), (66, _)] ?_
      refine tT rfl ?_
      refine Tri.seq ?_
      refine tR ?_
      refine sV rfl rfl rfl ?_
      show TrP 68 _ _ _ _
      refine tH [(2, _), (6, _), (7, _), (8, _), (9, _), (37, _), (38, _), (39, _), (40, _), (66, _)] ?_
      refine Tri.ret ?_
      refine ⟨trivial, _, rfl, ?_⟩
      have e0 : limF f = false := by unfold limF; simp only [*, ne_eq, not_false_eq_true, decide_true, decide_false, if_true, if_false, Bool.not_true, Bool.not_false, Bool.and_true, Bool.true_and, Bool.and_false, Bool.false_and]
      have e : limP p = false := by unfold limP; rw [all_no hf e0]; simp
      rw [e]
      first
        | exact ⟨hkp1.trans0 hK2, rfl, rfl⟩
        | exact ⟨hkp1, rfl, rfl⟩
        | exact ⟨hkp.trans0 kZ, rfl, rfl⟩
    ·
     show TrP 68 _ _ _ _
     refine tH [(37, _), (38, _), (39, _), (40, _)] ?_
     refine Tri.seq ?_
     refine tF rfl ?_
     refine Tri.exit ?_
     show TrP 68 _ _ _ _
     refine tH [(37, _), (38, _), (39, _), (40, _)] ?_
     refine Tri.seq ?_
     refine tR ?_
     refine sV rfl rfl rfl ?_
     show TrP 68 _ _ _ _
     refine tH [(2, _), (37, _), (38, _), (39, _), (40, _)] ?_
     refine Tri.ret ?_
     refine ⟨trivial, _, rfl, ?_⟩
     have e : limP p = true := by
       unfold limP; rw [List.take_of_length_le (by omega)] at hall hall2; rw [hall, hall2]; simp only [*, ne_eq, not_false_eq_true, decide_true, decide_false, if_true, if_false, Bool.not_true, Bool.not_false, Bool.and_true, Bool.true_and, Bool.and_false, Bool.false_and]
     rw [e]; exact ⟨hkp, rfl, rfl⟩
end Go.Proofs.Ytceakkomleaibaa
