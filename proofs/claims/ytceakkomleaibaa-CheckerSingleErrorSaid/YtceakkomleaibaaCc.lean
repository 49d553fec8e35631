/-
  CONTRACTS of the checker: well-formed statements and programs, the limits (printed by wip/tools/walk.py from wip/specs/chkC.py). Written in this session.
-/
import Derived.Test.YtceakkomleaibaaCb
namespace Go.Proofs.Ytceakkomleaibaa
open Go.Ea
set_option maxRecDepth 100000
set_option linter.unusedVariables false
set_option linter.unusedSimpArgs false

/-- A statement that the parser makes, but for its operands of a call and what is nested in it. -/
noncomputable def wfP (s : Stm) : Bool := fk s.kind && (nF s.name (fl s.kind 0) && (nF s.to (fl s.kind 1) && (eF s.sub (fl s.kind 3) && (eF s.value (fl s.kind 4) && (!decide (s.n < 0) && (!decide (s.n > 1000000) && (!(!fl s.kind 2 && !decide (s.n = 0)) &&
  (!(!fl s.kind 5 && decide ((s.args.length : Int) > 0)) && (!(!fl s.kind 6 && decide ((s.thn.length : Int) > 0)) && !(!fl s.kind 7 && decide ((s.els.length : Int) > 0)))))))))))
noncomputable def wfS1 (s : Stm) : Bool := wfP s && s.args.all wfX

set_option maxHeartbeats 2000000 in
theorem wfStmt_ok (x : Stm) (d : Nat) (cs : List AT) (H : Heap) (hL : LM H x cs) (hht : htS x < 2305843009213693952) : Sim Try.prog 36 [.one (.agg cs), at' (.int .i64 d)] H (fun u G => u = at' (.bool (wfS1 x)) ∧ G = H) := by
 obtain ⟨a1, a2, a3, a4, a5, na, b1, b2, b3, b4, b5, nb, pa, pt, pe, rfl, hsub, hval, hargs, hthn, hels⟩ := hL.out
 obtain ⟨hh1, hh2, hh3⟩ := ht_sub x
 have hlx := len_stm x
 refine Sim.trim ?_
 refine Sim.of_tri Try.func36 rfl ?_
 show TrP 111 _ _ _ _
 refine Tri.seq ?_
 refine tR ?_
 refine sO rfl rfl (oBox (cs := [_, _, _, _, _, _, _, _, _, _, _, _, _, _, _, _, _]) rfl rfl ?_)
 refine sV rfl rfl rfl ?_
 show TrP 111 _ _ _ _
 refine tH [(0, _), (2, _), (4, _)] ?_
 refine Tri.seq ?_
 refine tR ?_
 refine sO rfl rfl (oW (at' (.ptr (some (_, 0)))) rfl rfl ?_)
 refine sO rfl rfl (oLoad (x := .at _) rfl gG rfl ?_)
 refine sO rfl rfl (oF rfl (fnOk_of Try.func57 (by decide) rfl) (fields_ok _ _) ?_)
 iterate 2 refine sV rfl rfl rfl ?_
 refine sO rfl rfl (oB rfl (fun h14 => ?_) (fun h14 => ?_))
 ·
  refine sO rfl rfl (oAlloc (cs := [.bool false, .bool false, .bool false, .bool false, .bool false, .bool false, .bool false, .bool false]) rfl rfl ?_)
  refine sO rfl rfl (oStore (n := 8) (cs' := [_, _, _, _, _, _, _, _]) rfl rfl rfl gG rfl (Nat.le_of_ble_eq_true rfl) rfl rfl ?_)
  refine sV rfl rfl rfl ?_
  show TrP 111 _ _ _ _
  refine tH [(0, _), (2, _), (4, _), (5, _), (6, _)] ?_
  refine Tri.seq ?_
  refine Tri.seq ?_
  refine tR ?_
  iterate 3 refine sV rfl rfl rfl ?_
  refine sO rfl rfl (oW (at' (.ptr (some (_, 1)))) rfl rfl ?_)
  refine sO rfl rfl (oLoad (x := .at _) rfl gG rfl ?_)
  refine sO rfl rfl (oW (at' (.ptr (some (_, 0)))) rfl rfl ?_)
  refine sO rfl rfl (oLoad (x := .at _) rfl gG rfl ?_)
  refine sO rfl rfl (oFB rfl (fnOk_of Try.func58 (by decide) rfl) (nameField_ok _ _ _) (fun h22 => ?_) (fun h22 => ?_))
  ·
   iterate 3 refine sV rfl rfl rfl ?_
   refine sO rfl rfl (oW (at' (.ptr (some (_, 2)))) rfl rfl ?_)
   refine sO rfl rfl (oLoad (x := .at _) rfl gG rfl ?_)
   refine sO rfl rfl (oW (at' (.ptr (some (_, 1)))) rfl rfl ?_)
   refine sO rfl rfl (oLoad (x := .at _) rfl gG rfl ?_)
   refine sO rfl rfl (oFB rfl (fnOk_of Try.func58 (by decide) rfl) (nameField_ok _ _ _) (fun h30 => ?_) (fun h30 => ?_))
   ·
    iterate 3 refine sV rfl rfl rfl ?_
    refine sO rfl rfl (oW (at' (.ptr (some (_, 4)))) rfl rfl ?_)
    refine sO rfl rfl (oLoad (x := .agg [_, _, _, _, _]) rfl gG rfl ?_)
    refine sO rfl rfl (oW (at' (.ptr (some (_, 3)))) rfl rfl ?_)
    refine sO rfl rfl (oLoad (x := .at _) rfl gG rfl ?_)
    refine sO rfl rfl (oFB rfl (fnOk_of Try.func59 (by decide) rfl) (exprField_ok x.sub _ _ _ (LX.kp kP _ _ hsub) (by omega)) (fun h38 => ?_) (fun h38 => ?_))
    ·
     iterate 3 refine sV rfl rfl rfl ?_
     refine sO rfl rfl (oW (at' (.ptr (some (_, 9)))) rfl rfl ?_)
     refine sO rfl rfl (oLoad (x := .agg [_, _, _, _, _]) rfl gG rfl ?_)
     refine sO rfl rfl (oW (at' (.ptr (some (_, 4)))) rfl rfl ?_)
     refine sO rfl rfl (oLoad (x := .at _) rfl gG rfl ?_)
     refine sO rfl rfl (oFB rfl (fnOk_of Try.func59 (by decide) rfl) (exprField_ok x.value _ _ _ (LX.kp kP _ _ hval) (by omega)) (fun h46 => ?_) (fun h46 => ?_))
     ·
      iterate 2 refine sV rfl rfl rfl ?_
      show TrP 111 _ _ _ _
      refine tH [(0, _), (2, _), (4, _), (5, _), (6, _), (48, _)] ?_
      refine tF rfl ?_
      refine Tri.skip ?_
      show TrP 111 _ _ _ _
      refine tH [(0, _), (2, _), (4, _), (5, _), (6, _), (48, _)] ?_
      refine Tri.seqI (fun lk1 H1 => wfP x = true ∧ Kp [] H H1 ∧ H1.get H.n = some (.cells 46 1 [.int .i64 x.kind, .str x.name, .str x.to, .int .i64 x.n, .int .i64 a1, .int .i64 a2, .str a3, .int .i64 a4, .slice a5 na, .int .i64 b1, .int .i64 b2, .str b3, .int .i64 b4, .slice b5 nb, .slice pa x.args.length, .slice pt x.thn.length, .slice pe x.els.length]) ∧ Has lk1 [(2, at' (.ptr (some (H.n, 0))))]) ?_ ?_
      ·
       refine Tri.seq ?_
       refine tR ?_
       refine sO rfl rfl (oW (at' (.ptr (some (_, 3)))) rfl rfl ?_)
       refine sO rfl rfl (oLoad (x := .at _) rfl gG rfl ?_)
       refine sO rfl rfl (oP rfl (fun h51 => ?_) (fun h51 => ?_))
       ·
        refine sV rfl rfl rfl ?_
        iterate 3 refine sN rfl rfl ?_
        iterate 2 refine sV rfl rfl rfl ?_
        iterate 8 refine sN rfl rfl ?_
        iterate 2 refine sV rfl rfl rfl ?_
        iterate 9 refine sN rfl rfl ?_
        iterate 2 refine sV rfl rfl rfl ?_
        iterate 9 refine sN rfl rfl ?_
        iterate 2 refine sV rfl rfl rfl ?_
        iterate 9 refine sN rfl rfl ?_
        refine sV rfl rfl rfl ?_
        show TrP 111 _ _ _ _
        refine tH [(0, _), (2, _), (4, _), (5, _), (6, _), (48, _), (99, _)] ?_
        refine tT rfl ?_
        refine Tri.seq ?_
        refine tR ?_
        refine sV rfl rfl rfl ?_
        show TrP 111 _ _ _ _
        refine tH [(0, _), (2, _), (4, _), (5, _), (6, _), (48, _), (99, _)] ?_
        refine Tri.ret ?_
        refine ⟨trivial, _, rfl, ?_⟩
        have e : wfS1 x = false := by
          clear hL hsub hval hargs hthn hels hht hh1 hh2 hh3 hlx
          unfold wfS1 wfP
          simp only [*, ne_eq, not_false_eq_true, decide_true, decide_false, Bool.not_true, Bool.not_false, Bool.and_true, Bool.true_and, Bool.and_false, Bool.false_and] <;> rfl
        rw [e]; exact ⟨kP, rfl, rfl⟩
       ·
        refine sV rfl rfl rfl ?_
        refine sO rfl rfl (oW (at' (.ptr (some (_, 3)))) rfl rfl ?_)
        refine sO rfl rfl (oLoad (x := .at _) rfl gG rfl ?_)
        refine sO rfl rfl (oP rfl (fun h55 => ?_) (fun h55 => ?_))
        ·
         iterate 2 refine sV rfl rfl rfl ?_
         iterate 8 refine sN rfl rfl ?_
         iterate 2 refine sV rfl rfl rfl ?_
         iterate 9 refine sN rfl rfl ?_
         iterate 2 refine sV rfl rfl rfl ?_
         iterate 9 refine sN rfl rfl ?_
         iterate 2 refine sV rfl rfl rfl ?_
         iterate 9 refine sN rfl rfl ?_
         refine sV rfl rfl rfl ?_
         show TrP 111 _ _ _ _
         refine tH [(0, _), (2, _), (4, _), (5, _), (6, _), (48, _), (99, _)] ?_
         refine tT rfl ?_
         refine Tri.seq ?_
         refine tR ?_
         refine sV rfl rfl rfl ?_
         show TrP 111 _ _ _ _
         refine tH [(0, _), (2, _), (4, _), (5, _), (6, _), (48, _), (99, _)] ?_
         refine Tri.ret ?_
         refine ⟨trivial, _, rfl, ?_⟩
         have e : wfS1 x = false := by
           clear hL hsub hval hargs hthn hels hht hh1 hh2 hh3 hlx
           unfold wfS1 wfP
           simp only [*, ne_eq, not_false_eq_true, decide_true, decide_false, Bool.not_true, Bool.not_false, Bool.and_true, Bool.true_and, Bool.and_false, Bool.false_and] <;> rfl
         rw [e]; exact ⟨kP, rfl, rfl⟩
        ·
         iterate 2 refine sV rfl rfl rfl ?_
         refine sO rfl rfl (oW (at' (.ptr (some (_, 2)))) rfl rfl ?_)
         refine sO rfl rfl (oLoadB rfl gG rfl (fun h59 => ?_) (fun h59 => ?_))
         ·
          iterate 2 refine sV rfl rfl rfl ?_
          iterate 3 refine sN rfl rfl ?_
          iterate 3 refine sV rfl rfl rfl ?_
          refine sO rfl rfl (oW (at' (.ptr (some (_, 5)))) rfl rfl ?_)
          refine sO rfl rfl (oLoadB rfl gG rfl (fun h69 => ?_) (fun h69 => ?_))
          ·
           iterate 2 refine sV rfl rfl rfl ?_
           iterate 4 refine sN rfl rfl ?_
           iterate 3 refine sV rfl rfl rfl ?_
           refine sO rfl rfl (oW (at' (.ptr (some (_, 6)))) rfl rfl ?_)
           refine sO rfl rfl (oLoadB rfl gG rfl (fun h80 => ?_) (fun h80 => ?_))
           ·
            iterate 2 refine sV rfl rfl rfl ?_
            iterate 4 refine sN rfl rfl ?_
            iterate 3 refine sV rfl rfl rfl ?_
            refine sO rfl rfl (oW (at' (.ptr (some (_, 7)))) rfl rfl ?_)
            refine sO rfl rfl (oLoadB rfl gG rfl (fun h91 => ?_) (fun h91 => ?_))
            ·
             iterate 2 refine sV rfl rfl rfl ?_
             iterate 4 refine sN rfl rfl ?_
             iterate 2 refine sV rfl rfl rfl ?_
             show TrP 111 _ _ _ _
             refine tH [(0, _), (2, _), (4, _), (5, _), (6, _), (48, _), (99, _)] ?_
             refine tF rfl ?_
             refine Tri.skip ?_
             refine ⟨?_, kP, gG, ⟨rfl, trivial⟩⟩
             clear hL hsub hval hargs hthn hels hht hh1 hh2 hh3 hlx
             unfold wfP
             simp only [*, ne_eq, not_false_eq_true, decide_true, decide_false, Bool.not_true, Bool.not_false, Bool.and_true, Bool.true_and, Bool.and_false, Bool.false_and] <;> rfl
            ·
             iterate 2 refine sV rfl rfl rfl ?_
             refine sO rfl rfl (oW (at' (.ptr (some (_, 16)))) rfl rfl ?_)
             refine sO rfl rfl (oLoad (x := .at _) rfl gG rfl ?_)
             refine sV rfl rfl rfl ?_
             refine sO rfl rfl (oP rfl (fun h97 => ?_) (fun h97 => ?_))
             ·
              iterate 2 refine sV rfl rfl rfl ?_
              show TrP 111 _ _ _ _
              refine tH [(0, _), (2, _), (4, _), (5, _), (6, _), (48, _), (99, _)] ?_
              refine tT rfl ?_
              refine Tri.seq ?_
              refine tR ?_
              refine sV rfl rfl rfl ?_
              show TrP 111 _ _ _ _
              refine tH [(0, _), (2, _), (4, _), (5, _), (6, _), (48, _), (99, _)] ?_
              refine Tri.ret ?_
              refine ⟨trivial, _, rfl, ?_⟩
              have e : wfS1 x = false := by
                clear hL hsub hval hargs hthn hels hht hh1 hh2 hh3 hlx
                unfold wfS1 wfP
                simp only [*, ne_eq, not_false_eq_true, decide_true, decide_false, Bool.not_true, Bool.not_false, Bool.and_true, Bool.true_and, Bool.and_false, Bool.false_and] <;> rfl
              rw [e]; exact ⟨kP, rfl, rfl⟩
             ·
              iterate 2 refine sV rfl rfl rfl ?_
              show TrP 111 _ _ _ _
              refine tH [(0, _), (2, _), (4, _), (5, _), (6, _), (48, _), (99, _)] ?_
              refine tF rfl ?_
              refine Tri.skip ?_
              refine ⟨?_, kP, gG, ⟨rfl, trivial⟩⟩
              clear hL hsub hval hargs hthn hels hht hh1 hh2 hh3 hlx
              unfold wfP
              simp only [*, ne_eq, not_false_eq_true, decide_true, decide_false, Bool.not_true, Bool.not_false, Bool.and_true, Bool.true_and, Bool.and_false, Bool.false_and] <;> rfl
           ·
            iterate 2 refine sV rfl rfl rfl ?_
            refine sO rfl rfl (oW (at' (.ptr (some (_, 15)))) rfl rfl ?_)
            refine sO rfl rfl (oLoad (x := .at _) rfl gG rfl ?_)
            refine sV rfl rfl rfl ?_
            refine sO rfl rfl (oP rfl (fun h86 => ?_) (fun h86 => ?_))
            ·
             iterate 3 refine sV rfl rfl rfl ?_
             iterate 9 refine sN rfl rfl ?_
             refine sV rfl rfl rfl ?_
             show TrP 111 _ _ _ _
             refine tH [(0, _), (2, _), (4, _), (5, _), (6, _), (48, _), (99, _)] ?_
             refine tT rfl ?_
             refine Tri.seq ?_
             refine tR ?_
             refine sV rfl rfl rfl ?_
             show TrP 111 _ _ _ _
             refine tH [(0, _), (2, _), (4, _), (5, _), (6, _), (48, _), (99, _)] ?_
             refine Tri.ret ?_
             refine ⟨trivial, _, rfl, ?_⟩
             have e : wfS1 x = false := by
               clear hL hsub hval hargs hthn hels hht hh1 hh2 hh3 hlx
               unfold wfS1 wfP
               simp only [*, ne_eq, not_false_eq_true, decide_true, decide_false, Bool.not_true, Bool.not_false, Bool.and_true, Bool.true_and, Bool.and_false, Bool.false_and] <;> rfl
             rw [e]; exact ⟨kP, rfl, rfl⟩
            ·
             iterate 3 refine sV rfl rfl rfl ?_
             refine sO rfl rfl (oW (at' (.ptr (some (_, 7)))) rfl rfl ?_)
             refine sO rfl rfl (oLoadB rfl gG rfl (fun h91 => ?_) (fun h91 => ?_))
             ·
              iterate 2 refine sV rfl rfl rfl ?_
              iterate 4 refine sN rfl rfl ?_
              iterate 2 refine sV rfl rfl rfl ?_
              show TrP 111 _ _ _ _
              refine tH [(0, _), (2, _), (4, _), (5, _), (6, _), (48, _), (99, _)] ?_
              refine tF rfl ?_
              refine Tri.skip ?_
              refine ⟨?_, kP, gG, ⟨rfl, trivial⟩⟩
              clear hL hsub hval hargs hthn hels hht hh1 hh2 hh3 hlx
              unfold wfP
              simp only [*, ne_eq, not_false_eq_true, decide_true, decide_false, Bool.not_true, Bool.not_false, Bool.and_true, Bool.true_and, Bool.and_false, Bool.false_and] <;> rfl
             ·
              iterate 2 refine sV rfl rfl rfl ?_
              refine sO rfl rfl (oW (at' (.ptr (some (_, 16)))) rfl rfl ?_)
              refine sO rfl rfl (oLoad (x := .at _) rfl gG rfl ?_)
              refine sV rfl rfl rfl ?_
              refine sO rfl rfl (oP rfl (fun h97 => ?_) (fun h97 => ?_))
              ·
               iterate 2 refine sV rfl rfl rfl ?_
               show TrP 111 _ _ _ _
               refine tH [(0, _), (2, _), (4, _), (5, _), (6, _), (48, _), (99, _)] ?_
               refine tT rfl ?_
               refine Tri.seq ?_
               refine tR ?_
               refine sV rfl rfl rfl ?_
               show TrP 111 _ _ _ _
               refine tH [(0, _), (2, _), (4, _), (5, _), (6, _), (48, _), (99, _)] ?_
               refine Tri.ret ?_
               refine ⟨trivial, _, rfl, ?_⟩
               have e : wfS1 x = false := by
                 clear hL hsub hval hargs hthn hels hht hh1 hh2 hh3 hlx
                 unfold wfS1 wfP
                 simp only [*, ne_eq, not_false_eq_true, decide_true, decide_false, Bool.not_true, Bool.not_false, Bool.and_true, Bool.true_and, Bool.and_false, Bool.false_and] <;> rfl
               rw [e]; exact ⟨kP, rfl, rfl⟩
              ·
               iterate 2 refine sV rfl rfl rfl ?_
               show TrP 111 _ _ _ _
               refine tH [(0, _), (2, _), (4, _), (5, _), (6, _), (48, _), (99, _)] ?_
               refine tF rfl ?_
               refine Tri.skip ?_
               refine ⟨?_, kP, gG, ⟨rfl, trivial⟩⟩
               clear hL hsub hval hargs hthn hels hht hh1 hh2 hh3 hlx
               unfold wfP
               simp only [*, ne_eq, not_false_eq_true, decide_true, decide_false, Bool.not_true, Bool.not_false, Bool.and_true, Bool.true_and, Bool.and_false, Bool.false_and] <;> rfl
          ·
           iterate 2 refine sV rfl rfl rfl ?_
           refine sO rfl rfl (oW (at' (.ptr (some (_, 14)))) rfl rfl ?_)
           refine sO rfl rfl (oLoad (x := .at _) rfl gG rfl ?_)
           refine sV rfl rfl rfl ?_
           refine sO rfl rfl (oP rfl (fun h75 => ?_) (fun h75 => ?_))
           ·
            iterate 3 refine sV rfl rfl rfl ?_
            iterate 9 refine sN rfl rfl ?_
            iterate 2 refine sV rfl rfl rfl ?_
            iterate 9 refine sN rfl rfl ?_
            refine sV rfl rfl rfl ?_
            show TrP 111 _ _ _ _
            refine tH [(0, _), (2, _), (4, _), (5, _), (6, _), (48, _), (99, _)] ?_
            refine tT rfl ?_
            refine Tri.seq ?_
            refine tR ?_
            refine sV rfl rfl rfl ?_
            show TrP 111 _ _ _ _
            refine tH [(0, _), (2, _), (4, _), (5, _), (6, _), (48, _), (99, _)] ?_
            refine Tri.ret ?_
            refine ⟨trivial, _, rfl, ?_⟩
            have e : wfS1 x = false := by
              clear hL hsub hval hargs hthn hels hht hh1 hh2 hh3 hlx
              unfold wfS1 wfP
              simp only [*, ne_eq, not_false_eq_true, decide_true, decide_false, Bool.not_true, Bool.not_false, Bool.and_true, Bool.true_and, Bool.and_false, Bool.false_and] <;> rfl
            rw [e]; exact ⟨kP, rfl, rfl⟩
           ·
            iterate 3 refine sV rfl rfl rfl ?_
            refine sO rfl rfl (oW (at' (.ptr (some (_, 6)))) rfl rfl ?_)
            refine sO rfl rfl (oLoadB rfl gG rfl (fun h80 => ?_) (fun h80 => ?_))
            ·
             iterate 2 refine sV rfl rfl rfl ?_
             iterate 4 refine sN rfl rfl ?_
             iterate 3 refine sV rfl rfl rfl ?_
             refine sO rfl rfl (oW (at' (.ptr (some (_, 7)))) rfl rfl ?_)
             refine sO rfl rfl (oLoadB rfl gG rfl (fun h91 => ?_) (fun h91 => ?_))
             ·
              iterate 2 refine sV rfl rfl rfl ?_
              iterate 4 refine sN rfl rfl ?_
              iterate 2 refine sV rfl rfl rfl ?_
              show TrP 111 _ _ _ _
              refine tH [(0, _), (2, _), (4, _), (5, _), (6, _), (48, _), (99, _)] ?_
              refine tF rfl ?_
              refine Tri.skip ?_
              refine ⟨?_, kP, gG, ⟨rfl, trivial⟩⟩
              clear hL hsub hval hargs hthn hels hht hh1 hh2 hh3 hlx
              unfold wfP
              simp only [*, ne_eq, not_false_eq_true, decide_true, decide_false, Bool.not_true, Bool.not_false, Bool.and_true, Bool.true_and, Bool.and_false, Bool.false_and] <;> rfl
             ·
              iterate 2 refine sV rfl rfl rfl ?_
              refine sO rfl rfl (oW (at' (.ptr (some (_, 16)))) rfl rfl ?_)
              refine sO rfl rfl (oLoad (x := .at _) rfl gG rfl ?_)
              refine sV rfl rfl rfl ?_
              refine sO rfl rfl (oP rfl (fun h97 => ?_) (fun h97 => ?_))
              ·
               iterate 2 refine sV rfl rfl rfl ?_
               show TrP 111 _ _ _ _
               refine tH [(0, _), (2, _), (4, _), (5, _), (6, _), (48, _), (99, _)] ?_
               refine tT rfl ?_
               refine Tri.seq ?_
               refine tR ?_
               refine sV rfl rfl rfl ?_
               show TrP 111 _ _ _ _
               refine tH [(0, _), (2, _), (4, _), (5, _), (6, _), (48, _), (99, _)] ?_
               refine Tri.ret ?_
               refine ⟨trivial, _, rfl, ?_⟩
               have e : wfS1 x = false := by
                 clear hL hsub hval hargs hthn hels hht hh1 hh2 hh3 hlx
                 unfold wfS1 wfP
                 simp only [*, ne_eq, not_false_eq_true, decide_true, decide_false, Bool.not_true, Bool.not_false, Bool.and_true, Bool.true_and, Bool.and_false, Bool.false_and] <;> rfl
               rw [e]; exact ⟨kP, rfl, rfl⟩
              ·
               iterate 2 refine sV rfl rfl rfl ?_
               show TrP 111 _ _ _ _
               refine tH [(0, _), (2, _), (4, _), (5, _), (6, _), (48, _), (99, _)] ?_
               refine tF rfl ?_
               refine Tri.skip ?_
               refine ⟨?_, kP, gG, ⟨rfl, trivial⟩⟩
               clear hL hsub hval hargs hthn hels hht hh1 hh2 hh3 hlx
               unfold wfP
               simp only [*, ne_eq, not_false_eq_true, decide_true, decide_false, Bool.not_true, Bool.not_false, Bool.and_true, Bool.true_and, Bool.and_false, Bool.false_and] <;> rfl
            ·
             iterate 2 refine sV rfl rfl rfl ?_
             refine sO rfl rfl (oW (at' (.ptr (some (_, 15)))) rfl rfl ?_)
             refine sO rfl rfl (oLoad (x := .at _) rfl gG rfl ?_)
             refine sV rfl rfl rfl ?_
             refine sO rfl rfl (oP rfl (fun h86 => ?_) (fun h86 => ?_))
             ·
              iterate 3 refine sV rfl rfl rfl ?_
              iterate 9 refine sN rfl rfl ?_
              refine sV rfl rfl rfl ?_
              show TrP 111 _ _ _ _
              refine tH [(0, _), (2, _), (4, _), (5, _), (6, _), (48, _), (99, _)] ?_
              refine tT rfl ?_
              refine Tri.seq ?_
              refine tR ?_
              refine sV rfl rfl rfl ?_
              show TrP 111 _ _ _ _
              refine tH [(0, _), (2, _), (4, _), (5, _), (6, _), (48, _), (99, _)] ?_
              refine Tri.ret ?_
              refine ⟨trivial, _, rfl, ?_⟩
              have e : wfS1 x = false := by
                clear hL hsub hval hargs hthn hels hht hh1 hh2 hh3 hlx
                unfold wfS1 wfP
                simp only [*, ne_eq, not_false_eq_true, decide_true, decide_false, Bool.not_true, Bool.not_false, Bool.and_true, Bool.true_and, Bool.and_false, Bool.false_and] <;> rfl
              rw [e]; exact ⟨kP, rfl, rfl⟩
             ·
              iterate 3 refine sV rfl rfl rfl ?_
              refine sO rfl rfl (oW (at' (.ptr (some (_, 7)))) rfl rfl ?_)
              refine sO rfl rfl (oLoadB rfl gG rfl (fun h91 => ?_) (fun h91 => ?_))
              ·
               iterate 2 refine sV rfl rfl rfl ?_
               iterate 4 refine sN rfl rfl ?_
               iterate 2 refine sV rfl rfl rfl ?_
               show TrP 111 _ _ _ _
               refine tH [(0, _), (2, _), (4, _), (5, _), (6, _), (48, _), (99, _)] ?_
               refine tF rfl ?_
               refine Tri.skip ?_
               refine ⟨?_, kP, gG, ⟨rfl, trivial⟩⟩
               clear hL hsub hval hargs hthn hels hht hh1 hh2 hh3 hlx
               unfold wfP
               simp only [*, ne_eq, not_false_eq_true, decide_true, decide_false, Bool.not_true, Bool.not_false, Bool.and_true, Bool.true_and, Bool.and_false, Bool.false_and] <;> rfl
              ·
               iterate 2 refine sV rfl rfl rfl ?_
               refine sO rfl rfl (oW (at' (.ptr (some (_, 16)))) rfl rfl ?_)
               refine sO rfl rfl (oLoad (x := .at _) rfl gG rfl ?_)
               refine sV rfl rfl rfl ?_
               refine sO rfl rfl (oP rfl (fun h97 => ?_) (fun h97 => ?_))
               ·
                iterate 2 refine sV rfl rfl rfl ?_
                show TrP 111 _ _ _ _
                refine tH [(0, _), (2, _), (4, _), (5, _), (6, _), (48, _), (99, _)] ?_
                refine tT rfl ?_
                refine Tri.seq ?_
                refine tR ?_
                refine sV rfl rfl rfl ?_
                show TrP 111 _ _ _ _
                refine tH [(0, _), (2, _), (4, _), (5, _), (6, _), (48, _), (99, _)] ?_
                refine Tri.ret ?_
                refine ⟨trivial, _, rfl, ?_⟩
                have e : wfS1 x = false := by
                  clear hL hsub hval hargs hthn hels hht hh1 hh2 hh3 hlx
                  unfold wfS1 wfP
                  simp only [*, ne_eq, not_false_eq_true, decide_true, decide_false, Bool.not_true, Bool.not_false, Bool.and_true, Bool.true_and, Bool.and_false, Bool.false_and] <;> rfl
                rw [e]; exact ⟨kP, rfl, rfl⟩
               ·
                iterate 2 refine sV rfl rfl rfl ?_
                show TrP 111 _ _ _ _
                refine tH [(0, _), (2, _), (4, _), (5, _), (6, _), (48, _), (99, _)] ?_
                refine tF rfl ?_
                refine Tri.skip ?_
                refine ⟨?_, kP, gG, ⟨rfl, trivial⟩⟩
                clear hL hsub hval hargs hthn hels hht hh1 hh2 hh3 hlx
                unfold wfP
                simp only [*, ne_eq, not_false_eq_true, decide_true, decide_false, Bool.not_true, Bool.not_false, Bool.and_true, Bool.true_and, Bool.and_false, Bool.false_and] <;> rfl
         ·
          iterate 2 refine sV rfl rfl rfl ?_
          refine sO rfl rfl (oW (at' (.ptr (some (_, 3)))) rfl rfl ?_)
          refine sO rfl rfl (oLoad (x := .at _) rfl gG rfl ?_)
          refine sO rfl rfl (oNE rfl (fun h64 => ?_) (fun h64 => ?_))
          ·
           iterate 3 refine sV rfl rfl rfl ?_
           iterate 9 refine sN rfl rfl ?_
           iterate 2 refine sV rfl rfl rfl ?_
           iterate 9 refine sN rfl rfl ?_
           iterate 2 refine sV rfl rfl rfl ?_
           iterate 9 refine sN rfl rfl ?_
           refine sV rfl rfl rfl ?_
           show TrP 111 _ _ _ _
           refine tH [(0, _), (2, _), (4, _), (5, _), (6, _), (48, _), (99, _)] ?_
           refine tT rfl ?_
           refine Tri.seq ?_
           refine tR ?_
           refine sV rfl rfl rfl ?_
           show TrP 111 _ _ _ _
           refine tH [(0, _), (2, _), (4, _), (5, _), (6, _), (48, _), (99, _)] ?_
           refine Tri.ret ?_
           refine ⟨trivial, _, rfl, ?_⟩
           have e : wfS1 x = false := by
             clear hL hsub hval hargs hthn hels hht hh1 hh2 hh3 hlx
             unfold wfS1 wfP
             simp only [*, ne_eq, not_false_eq_true, decide_true, decide_false, Bool.not_true, Bool.not_false, Bool.and_true, Bool.true_and, Bool.and_false, Bool.false_and] <;> rfl
           rw [e]; exact ⟨kP, rfl, rfl⟩
          ·
           iterate 3 refine sV rfl rfl rfl ?_
           refine sO rfl rfl (oW (at' (.ptr (some (_, 5)))) rfl rfl ?_)
           refine sO rfl rfl (oLoadB rfl gG rfl (fun h69 => ?_) (fun h69 => ?_))
           ·
            iterate 2 refine sV rfl rfl rfl ?_
            iterate 4 refine sN rfl rfl ?_
            iterate 3 refine sV rfl rfl rfl ?_
            refine sO rfl rfl (oW (at' (.ptr (some (_, 6)))) rfl rfl ?_)
            refine sO rfl rfl (oLoadB rfl gG rfl (fun h80 => ?_) (fun h80 => ?_))
            ·
             iterate 2 refine sV rfl rfl rfl ?_
             iterate 4 refine sN rfl rfl ?_
             iterate 3 refine sV rfl rfl rfl ?_
             refine sO rfl rfl (oW (at' (.ptr (some (_, 7)))) rfl rfl ?_)
             refine sO rfl rfl (oLoadB rfl gG rfl (fun h91 => ?_) (fun h91 => ?_))
             ·
              iterate 2 refine sV rfl rfl rfl ?_
              iterate 4 refine sN rfl rfl ?_
              iterate 2 refine sV rfl rfl rfl ?_
              show TrP 111 _ _ _ _
              refine tH [(0, _), (2, _), (4, _), (5, _), (6, _), (48, _), (99, _)] ?_
              refine tF rfl ?_
              refine Tri.skip ?_
              refine ⟨?_, kP, gG, ⟨rfl, trivial⟩⟩
              clear hL hsub hval hargs hthn hels hht hh1 hh2 hh3 hlx
              unfold wfP
              simp only [*, ne_eq, not_false_eq_true, decide_true, decide_false, Bool.not_true, Bool.not_false, Bool.and_true, Bool.true_and, Bool.and_false, Bool.false_and] <;> rfl
             ·
              iterate 2 refine sV rfl rfl rfl ?_
              refine sO rfl rfl (oW (at' (.ptr (some (_, 16)))) rfl rfl ?_)
              refine sO rfl rfl (oLoad (x := .at _) rfl gG rfl ?_)
              refine sV rfl rfl rfl ?_
              refine sO rfl rfl (oP rfl (fun h97 => ?_) (fun h97 => ?_))
              ·
               iterate 2 refine sV rfl rfl rfl ?_
               show TrP 111 _ _ _ _
               refine tH [(0, _), (2, _), (4, _), (5, _), (6, _), (48, _), (99, _)] ?_
               refine tT rfl ?_
               refine Tri.seq ?_
               refine tR ?_
               refine sV rfl rfl rfl ?_
               show TrP 111 _ _ _ _
               refine tH [(0, _), (2, _), (4, _), (5, _), (6, _), (48, _), (99, _)] ?_
               refine Tri.ret ?_
               refine ⟨trivial, _, rfl, ?_⟩
               have e : wfS1 x = false := by
                 clear hL hsub hval hargs hthn hels hht hh1 hh2 hh3 hlx
                 unfold wfS1 wfP
                 simp only [*, ne_eq, not_false_eq_true, decide_true, decide_false, Bool.not_true, Bool.not_false, Bool.and_true, Bool.true_and, Bool.and_false, Bool.false_and] <;> rfl
               rw [e]; exact ⟨kP, rfl, rfl⟩
              ·
               iterate 2 refine sV rfl rfl rfl ?_
               show TrP 111 _ _ _ _
               refine tH [(0, _), (2, _), (4, _), (5, _), (6, _), (48, _), (99, _)] ?_
               refine tF rfl ?_
               refine Tri.skip ?_
               refine ⟨?_, kP, gG, ⟨rfl, trivial⟩⟩
               clear hL hsub hval hargs hthn hels hht hh1 hh2 hh3 hlx
               unfold wfP
               simp only [*, ne_eq, not_false_eq_true, decide_true, decide_false, Bool.not_true, Bool.not_false, Bool.and_true, Bool.true_and, Bool.and_false, Bool.false_and] <;> rfl
            ·
             iterate 2 refine sV rfl rfl rfl ?_
             refine sO rfl rfl (oW (at' (.ptr (some (_, 15)))) rfl rfl ?_)
             refine sO rfl rfl (oLoad (x := .at _) rfl gG rfl ?_)
             refine sV rfl rfl rfl ?_
             refine sO rfl rfl (oP rfl (fun h86 => ?_) (fun h86 => ?_))
             ·
              iterate 3 refine sV rfl rfl rfl ?_
              iterate 9 refine sN rfl rfl ?_
              refine sV rfl rfl rfl ?_
              show TrP 111 _ _ _ _
              refine tH [(0, _), (2, _), (4, _), (5, _), (6, _), (48, _), (99, _)] ?_
              refine tT rfl ?_
              refine Tri.seq ?_
              refine tR ?_
              refine sV rfl rfl rfl ?_
              show TrP 111 _ _ _ _
              refine tH [(0, _), (2, _), (4, _), (5, _), (6, _), (48, _), (99, _)] ?_
              refine Tri.ret ?_
              refine ⟨trivial, _, rfl, ?_⟩
              have e : wfS1 x = false := by
                clear hL hsub hval hargs hthn hels hht hh1 hh2 hh3 hlx
                unfold wfS1 wfP
                simp only [*, ne_eq, not_false_eq_true, decide_true, decide_false, Bool.not_true, Bool.not_false, Bool.and_true, Bool.true_and, Bool.and_false, Bool.false_and] <;> rfl
              rw [e]; exact ⟨kP, rfl, rfl⟩
             ·
              iterate 3 refine sV rfl rfl rfl ?_
              refine sO rfl rfl (oW (at' (.ptr (some (_, 7)))) rfl rfl ?_)
              refine sO rfl rfl (oLoadB rfl gG rfl (fun h91 => ?_) (fun h91 => ?_))
              ·
               iterate 2 refine sV rfl rfl rfl ?_
               iterate 4 refine sN rfl rfl ?_
               iterate 2 refine sV rfl rfl rfl ?_
               show TrP 111 _ _ _ _
               refine tH [(0, _), (2, _), (4, _), (5, _), (6, _), (48, _), (99, _)] ?_
               refine tF rfl ?_
               refine Tri.skip ?_
               refine ⟨?_, kP, gG, ⟨rfl, trivial⟩⟩
               clear hL hsub hval hargs hthn hels hht hh1 hh2 hh3 hlx
               unfold wfP
               simp only [*, ne_eq, not_false_eq_true, decide_true, decide_false, Bool.not_true, Bool.not_false, Bool.and_true, Bool.true_and, Bool.and_false, Bool.false_and] <;> rfl
              ·
               iterate 2 refine sV rfl rfl rfl ?_
               refine sO rfl rfl (oW (at' (.ptr (some (_, 16)))) rfl rfl ?_)
               refine sO rfl rfl (oLoad (x := .at _) rfl gG rfl ?_)
               refine sV rfl rfl rfl ?_
               refine sO rfl rfl (oP rfl (fun h97 => ?_) (fun h97 => ?_))
               ·
                iterate 2 refine sV rfl rfl rfl ?_
                show TrP 111 _ _ _ _
                refine tH [(0, _), (2, _), (4, _), (5, _), (6, _), (48, _), (99, _)] ?_
                refine tT rfl ?_
                refine Tri.seq ?_
                refine tR ?_
                refine sV rfl rfl rfl ?_
                show TrP 111 _ _ _ _
                refine tH [(0, _), (2, _), (4, _), (5, _), (6, _), (48, _), (99, _)] ?_
                refine Tri.ret ?_
                refine ⟨trivial, _, rfl, ?_⟩
                have e : wfS1 x = false := by
                  clear hL hsub hval hargs hthn hels hht hh1 hh2 hh3 hlx
                  unfold wfS1 wfP
                  simp only [*, ne_eq, not_false_eq_true, decide_true, decide_false, Bool.not_true, Bool.not_false, Bool.and_true, Bool.true_and, Bool.and_false, Bool.false_and] <;> rfl
                rw [e]; exact ⟨kP, rfl, rfl⟩
               ·
                iterate 2 refine sV rfl rfl rfl ?_
                show TrP 111 _ _ _ _
                refine tH [(0, _), (2, _), (4, _), (5, _), (6, _), (48, _), (99, _)] ?_
                refine tF rfl ?_
                refine Tri.skip ?_
                refine ⟨?_, kP, gG, ⟨rfl, trivial⟩⟩
                clear hL hsub hval hargs hthn hels hht hh1 hh2 hh3 hlx
                unfold wfP
                simp only [*, ne_eq, not_false_eq_true, decide_true, decide_false, Bool.not_true, Bool.not_false, Bool.and_true, Bool.true_and, Bool.and_false, Bool.false_and] <;> rfl
           ·
            iterate 2 refine sV rfl rfl rfl ?_
            refine sO rfl rfl (oW (at' (.ptr (some (_, 14)))) rfl rfl ?_)
            refine sO rfl rfl (oLoad (x := .at _) rfl gG rfl ?_)
            refine sV rfl rfl rfl ?_
            refine sO rfl rfl (oP rfl (fun h75 => ?_) (fun h75 => ?_))
            ·
             iterate 3 refine sV rfl rfl rfl ?_
             iterate 9 refine sN rfl rfl ?_
             iterate 2 refine sV rfl rfl rfl ?_
             iterate 9 refine sN rfl rfl ?_
             refine sV rfl rfl rfl ?_
             show TrP 111 _ _ _ _
             refine tH [(0, _), (2, _), (4, _), (5, _), (6, _), (48, _), (99, _)] ?_
             refine tT rfl ?_
             refine Tri.seq ?_
             refine tR ?_
             refine sV rfl rfl rfl ?_
             show TrP 111 _ _ _ _
             refine tH [(0, _), (2, _), (4, _), (5, _), (6, _), (48, _), (99, _)] ?_
             refine Tri.ret ?_
             refine ⟨trivial, _, rfl, ?_⟩
             have e : wfS1 x = false := by
               clear hL hsub hval hargs hthn hels hht hh1 hh2 hh3 hlx
               unfold wfS1 wfP
               simp only [*, ne_eq, not_false_eq_true, decide_true, decide_false, Bool.not_true, Bool.not_false, Bool.and_true, Bool.true_and, Bool.and_false, Bool.false_and] <;> rfl
             rw [e]; exact ⟨kP, rfl, rfl⟩
            ·
             iterate 3 refine sV rfl rfl rfl ?_
             refine sO rfl rfl (oW (at' (.ptr (some (_, 6)))) rfl rfl ?_)
             refine sO rfl rfl (oLoadB rfl gG rfl (fun h80 => ?_) (fun h80 => ?_))
             ·
              iterate 2 refine sV rfl rfl rfl ?_
              iterate 4 refine sN rfl rfl ?_
              iterate 3 refine sV rfl rfl rfl ?_
              refine sO rfl rfl (oW (at' (.ptr (some (_, 7)))) rfl rfl ?_)
              refine sO rfl rfl (oLoadB rfl gG rfl (fun h91 => ?_) (fun h91 => ?_))
              ·
               iterate 2 refine sV rfl rfl rfl ?_
               iterate 4 refine sN rfl rfl ?_
               iterate 2 refine sV rfl rfl rfl ?_
               show TrP 111 _ _ _ _
               refine tH [(0, _), (2, _), (4, _), (5, _), (6, _), (48, _), (99, _)] ?_
               refine tF rfl ?_
               refine Tri.skip ?_
               refine ⟨?_, kP, gG, ⟨rfl, trivial⟩⟩
               clear hL hsub hval hargs hthn hels hht hh1 hh2 hh3 hlx
               unfold wfP
               simp only [*, ne_eq, not_false_eq_true, decide_true, decide_false, Bool.not_true, Bool.not_false, Bool.and_true, Bool.true_and, Bool.and_false, Bool.false_and] <;> rfl
              ·
               iterate 2 refine sV rfl rfl rfl ?_
               refine sO rfl rfl (oW (at' (.ptr (some (_, 16)))) rfl rfl ?_)
               refine sO rfl rfl (oLoad (x := .at _) rfl gG rfl ?_)
               refine sV rfl rfl rfl ?_
               refine sO rfl rfl (oP rfl (fun h97 => ?_) (fun h97 => ?_))
               ·
                iterate 2 refine sV rfl rfl rfl ?_
                show TrP 111 _ _ _ _
                refine tH [(0, _), (2, _), (4, _), (5, _), (6, _), (48, _), (99, _)] ?_
                refine tT rfl ?_
                refine Tri.seq ?_
                refine tR ?_
                refine sV rfl rfl rfl ?_
                show TrP 111 _ _ _ _
                refine tH [(0, _), (2, _), (4, _), (5, _), (6, _), (48, _), (99, _)] ?_
                refine Tri.ret ?_
                refine ⟨trivial, _, rfl, ?_⟩
                have e : wfS1 x = false := by
                  clear hL hsub hval hargs hthn hels hht hh1 hh2 hh3 hlx
                  unfold wfS1 wfP
                  simp only [*, ne_eq, not_false_eq_true, decide_true, decide_false, Bool.not_true, Bool.not_false, Bool.and_true, Bool.true_and, Bool.and_false, Bool.false_and] <;> rfl
                rw [e]; exact ⟨kP, rfl, rfl⟩
               ·
                iterate 2 refine sV rfl rfl rfl ?_
                show TrP 111 _ _ _ _
                refine tH [(0, _), (2, _), (4, _), (5, _), (6, _), (48, _), (99, _)] ?_
                refine tF rfl ?_
                refine Tri.skip ?_
                refine ⟨?_, kP, gG, ⟨rfl, trivial⟩⟩
                clear hL hsub hval hargs hthn hels hht hh1 hh2 hh3 hlx
                unfold wfP
                simp only [*, ne_eq, not_false_eq_true, decide_true, decide_false, Bool.not_true, Bool.not_false, Bool.and_true, Bool.true_and, Bool.and_false, Bool.false_and] <;> rfl
             ·
              iterate 2 refine sV rfl rfl rfl ?_
              refine sO rfl rfl (oW (at' (.ptr (some (_, 15)))) rfl rfl ?_)
              refine sO rfl rfl (oLoad (x := .at _) rfl gG rfl ?_)
              refine sV rfl rfl rfl ?_
              refine sO rfl rfl (oP rfl (fun h86 => ?_) (fun h86 => ?_))
              ·
               iterate 3 refine sV rfl rfl rfl ?_
               iterate 9 refine sN rfl rfl ?_
               refine sV rfl rfl rfl ?_
               show TrP 111 _ _ _ _
               refine tH [(0, _), (2, _), (4, _), (5, _), (6, _), (48, _), (99, _)] ?_
               refine tT rfl ?_
               refine Tri.seq ?_
               refine tR ?_
               refine sV rfl rfl rfl ?_
               show TrP 111 _ _ _ _
               refine tH [(0, _), (2, _), (4, _), (5, _), (6, _), (48, _), (99, _)] ?_
               refine Tri.ret ?_
               refine ⟨trivial, _, rfl, ?_⟩
               have e : wfS1 x = false := by
                 clear hL hsub hval hargs hthn hels hht hh1 hh2 hh3 hlx
                 unfold wfS1 wfP
                 simp only [*, ne_eq, not_false_eq_true, decide_true, decide_false, Bool.not_true, Bool.not_false, Bool.and_true, Bool.true_and, Bool.and_false, Bool.false_and] <;> rfl
               rw [e]; exact ⟨kP, rfl, rfl⟩
              ·
               iterate 3 refine sV rfl rfl rfl ?_
               refine sO rfl rfl (oW (at' (.ptr (some (_, 7)))) rfl rfl ?_)
               refine sO rfl rfl (oLoadB rfl gG rfl (fun h91 => ?_) (fun h91 => ?_))
               ·
                iterate 2 refine sV rfl rfl rfl ?_
                iterate 4 refine sN rfl rfl ?_
                iterate 2 refine sV rfl rfl rfl ?_
                show TrP 111 _ _ _ _
                refine tH [(0, _), (2, _), (4, _), (5, _), (6, _), (48, _), (99, _)] ?_
                refine tF rfl ?_
                refine Tri.skip ?_
                refine ⟨?_, kP, gG, ⟨rfl, trivial⟩⟩
                clear hL hsub hval hargs hthn hels hht hh1 hh2 hh3 hlx
                unfold wfP
                simp only [*, ne_eq, not_false_eq_true, decide_true, decide_false, Bool.not_true, Bool.not_false, Bool.and_true, Bool.true_and, Bool.and_false, Bool.false_and] <;> rfl
               ·
                iterate 2 refine sV rfl rfl rfl ?_
                refine sO rfl rfl (oW (at' (.ptr (some (_, 16)))) rfl rfl ?_)
                refine sO rfl rfl (oLoad (x := .at _) rfl gG rfl ?_)
                refine sV rfl rfl rfl ?_
                refine sO rfl rfl (oP rfl (fun h97 => ?_) (fun h97 => ?_))
                ·
                 iterate 2 refine sV rfl rfl rfl ?_
                 show TrP 111 _ _ _ _
                 refine tH [(0, _), (2, _), (4, _), (5, _), (6, _), (48, _), (99, _)] ?_
                 refine tT rfl ?_
                 refine Tri.seq ?_
                 refine tR ?_
                 refine sV rfl rfl rfl ?_
                 show TrP 111 _ _ _ _
                 refine tH [(0, _), (2, _), (4, _), (5, _), (6, _), (48, _), (99, _)] ?_
                 refine Tri.ret ?_
                 refine ⟨trivial, _, rfl, ?_⟩
                 have e : wfS1 x = false := by
                   clear hL hsub hval hargs hthn hels hht hh1 hh2 hh3 hlx
                   unfold wfS1 wfP
                   simp only [*, ne_eq, not_false_eq_true, decide_true, decide_false, Bool.not_true, Bool.not_false, Bool.and_true, Bool.true_and, Bool.and_false, Bool.false_and] <;> rfl
                 rw [e]; exact ⟨kP, rfl, rfl⟩
                ·
                 iterate 2 refine sV rfl rfl rfl ?_
                 show TrP 111 _ _ _ _
                 refine tH [(0, _), (2, _), (4, _), (5, _), (6, _), (48, _), (99, _)] ?_
                 refine tF rfl ?_
                 refine Tri.skip ?_
                 refine ⟨?_, kP, gG, ⟨rfl, trivial⟩⟩
                 clear hL hsub hval hargs hthn hels hht hh1 hh2 hh3 hlx
                 unfold wfP
                 simp only [*, ne_eq, not_false_eq_true, decide_true, decide_false, Bool.not_true, Bool.not_false, Bool.and_true, Bool.true_and, Bool.and_false, Bool.false_and] <;> rfl
      rintro lk1 H1 ⟨hP, hkp0, hcell, hh⟩
      refine Tri.has hh ?_
      refine Tri.seq ?_
      refine Tri.seq ?_
      refine tR ?_
      refine sO rfl rfl (oW (at' (.ptr (some (_, _ + 14)))) rfl rfl ?_)
      refine sO rfl rfl (oLoad (x := .at _) rfl gG rfl ?_)
      iterate 2 refine sV rfl rfl rfl ?_
      show TrP 111 _ _ _ _
      refine tH [(2, _), (101, _), (102, _), (103, _)] ?_
      refine Tri.block ?_
      refine Tri.loop (fun k lk1 H1 => ∃ j : Nat, k = x.args.length - j ∧ j ≤ x.args.length ∧ (x.args.take j).all wfX = true ∧ Kp [] H H1 ∧ Has lk1 [(101, at' (.slice pa x.args.length)), (102, at' (.int .i64 x.args.length)), (103, at' (.int .i64 j))]) (x.args.length) (⟨0, rfl, by omega, by simp, hkp0, ⟨rfl, rfl, rfl, trivial⟩⟩) ?_
      rintro k lk1 H1 ⟨j, hk3, hj, hall, hkp, hh⟩
      refine Tri.has hh ?_
      have hkpn := hkp.n
      refine Tri.seq ?_
      refine tR ?_
      refine sO rfl rfl (oP rfl (fun h104 => ?_) (fun h104 => ?_))
      ·
       show TrP 111 _ _ _ _
       refine tH [(101, _), (102, _), (103, _), (104, _)] ?_
       refine Tri.seq ?_
       refine tT rfl ?_
       refine Tri.skip ?_
       show TrP 111 _ _ _ _
       refine tH [(101, _), (102, _), (103, _), (104, _)] ?_
       refine Tri.seq ?_
       refine Tri.block ?_
       refine Tri.seq ?_
       refine tR ?_
       obtain ⟨y, hy⟩ : ∃ y, x.args[j]? = some y := ⟨_, List.getElem?_eq_getElem (by omega)⟩
       have hym := hh3 y (List.mem_of_getElem? hy)
       obtain ⟨id, o, T, q, c, rfl, hg0, hle, hLy⟩ := hargs.at hy
       have hg := hkp.get hg0 rfl
       obtain ⟨p2, hcs, hk2⟩ := hLy.out
       rw [hcs] at hLy
       refine sO rfl rfl (oIA (z := 5) rfl rfl rfl rfl (by omega) ?_)
       refine sO rfl rfl (oLoad (x := .agg [.int .i64 y.kind, .int .i64 y.n, .str y.name, .int .i64 y.op, .slice p2 y.kids.length]) rfl gG (part_all hcs hle rfl rfl rfl) ?_)
       refine sO rfl rfl (oAlloc (cs := [.int .i64 0, .int .i64 0, .str [], .int .i64 0, .slice none 0]) rfl rfl ?_)
       refine sO rfl rfl (oStore (n := 5) (cs' := [_, _, _, _, _]) rfl rfl rfl gG rfl (Nat.le_of_ble_eq_true rfl) rfl rfl ?_)
       show TrP 111 _ _ _ _
       refine tH [(8, _), (101, _), (102, _), (103, _), (104, _)] ?_
       refine Tri.seq ?_
       refine tR ?_
       refine sO rfl rfl (oLoad (x := .agg [_, _, _, _, _]) rfl gG rfl ?_)
       refine sO rfl rfl (oCB rfl (fnOk_of Try.func34 (by decide) rfl) (wfX_call (LX.kp (hkp.trans0 kP) _ _ hLy) (by omega)) (fun G1 hK h108 => ?_) (fun G1 hK h108 => ?_))
       ·
        refine sV rfl rfl rfl ?_
        show TrP 111 _ _ _ _
        refine tH [(8, _), (101, _), (102, _), (103, _), (104, _), (109, _)] ?_
        refine tF rfl ?_
        refine Tri.skip ?_
        show TrP 111 _ _ _ _
        refine tH [(8, _), (101, _), (102, _), (103, _), (104, _), (109, _)] ?_
        refine tR ?_
        refine sO rfl rfl (oAdd (m := 1) rfl (by omega) ?_)
        refine sV rfl rfl rfl ?_
        exact ⟨x.args.length - (j + 1), by omega, j + 1, rfl, by omega, all_snoc hall hy h108, (hkp.trans0 kZ).trans0 hK, ⟨rfl, rfl, rfl, trivial⟩⟩
       ·
        refine sV rfl rfl rfl ?_
        show TrP 111 _ _ _ _
        refine tH [(8, _), (101, _), (102, _), (103, _), (104, _), (109, _)] ?_
        refine tT rfl ?_
        refine Tri.seq ?_
        refine tR ?_
        refine sV rfl rfl rfl ?_
        show TrP 111 _ _ _ _
        refine tH [(4, _), (8, _), (101, _), (102, _), (103, _), (104, _), (109, _)] ?_
        refine Tri.ret ?_
        refine ⟨trivial, _, rfl, ?_⟩
        have e : wfS1 x = false := by unfold wfS1; rw [all_no hy h108]; simp
        rw [e]; exact ⟨(hkp.trans0 kZ).trans0 hK, rfl, rfl⟩
      ·
       show TrP 111 _ _ _ _
       refine tH [(101, _), (102, _), (103, _), (104, _)] ?_
       refine Tri.seq ?_
       refine tF rfl ?_
       refine Tri.exit ?_
       show TrP 111 _ _ _ _
       refine tH [(101, _), (102, _), (103, _), (104, _)] ?_
       refine Tri.seq ?_
       refine tR ?_
       refine sV rfl rfl rfl ?_
       show TrP 111 _ _ _ _
       refine tH [(4, _), (101, _), (102, _), (103, _), (104, _)] ?_
       refine Tri.ret ?_
       refine ⟨trivial, _, rfl, ?_⟩
       have e : wfS1 x = true := by unfold wfS1; rw [hP]; rw [List.take_of_length_le (by omega)] at hall; rw [hall]; rfl
       rw [e]; exact ⟨hkp, rfl, rfl⟩
     ·
      iterate 2 refine sV rfl rfl rfl ?_
      show TrP 111 _ _ _ _
      refine tH [(0, _), (2, _), (4, _), (5, _), (6, _), (48, _)] ?_
      refine tT rfl ?_
      refine Tri.seq ?_
      refine tR ?_
      refine sV rfl rfl rfl ?_
      show TrP 111 _ _ _ _
      refine tH [(0, _), (2, _), (4, _), (5, _), (6, _), (48, _)] ?_
      refine Tri.ret ?_
      refine ⟨trivial, _, rfl, ?_⟩
      have e : wfS1 x = false := by
        clear hL hsub hval hargs hthn hels hht hh1 hh2 hh3 hlx
        unfold wfS1 wfP
        simp only [*, ne_eq, not_false_eq_true, decide_true, decide_false, Bool.not_true, Bool.not_false, Bool.and_true, Bool.true_and, Bool.and_false, Bool.false_and] <;> rfl
      rw [e]; exact ⟨kP, rfl, rfl⟩
    ·
     iterate 3 refine sV rfl rfl rfl ?_
     iterate 6 refine sN rfl rfl ?_
     refine sV rfl rfl rfl ?_
     show TrP 111 _ _ _ _
     refine tH [(0, _), (2, _), (4, _), (5, _), (6, _), (48, _)] ?_
     refine tT rfl ?_
     refine Tri.seq ?_
     refine tR ?_
     refine sV rfl rfl rfl ?_
     show TrP 111 _ _ _ _
     refine tH [(0, _), (2, _), (4, _), (5, _), (6, _), (48, _)] ?_
     refine Tri.ret ?_
     refine ⟨trivial, _, rfl, ?_⟩
     have e : wfS1 x = false := by
       clear hL hsub hval hargs hthn hels hht hh1 hh2 hh3 hlx
       unfold wfS1 wfP
       simp only [*, ne_eq, not_false_eq_true, decide_true, decide_false, Bool.not_true, Bool.not_false, Bool.and_true, Bool.true_and, Bool.and_false, Bool.false_and] <;> rfl
     rw [e]; exact ⟨kP, rfl, rfl⟩
   ·
    iterate 3 refine sV rfl rfl rfl ?_
    iterate 6 refine sN rfl rfl ?_
    iterate 2 refine sV rfl rfl rfl ?_
    iterate 6 refine sN rfl rfl ?_
    refine sV rfl rfl rfl ?_
    show TrP 111 _ _ _ _
    refine tH [(0, _), (2, _), (4, _), (5, _), (6, _), (48, _)] ?_
    refine tT rfl ?_
    refine Tri.seq ?_
    refine tR ?_
    refine sV rfl rfl rfl ?_
    show TrP 111 _ _ _ _
    refine tH [(0, _), (2, _), (4, _), (5, _), (6, _), (48, _)] ?_
    refine Tri.ret ?_
    refine ⟨trivial, _, rfl, ?_⟩
    have e : wfS1 x = false := by
      clear hL hsub hval hargs hthn hels hht hh1 hh2 hh3 hlx
      unfold wfS1 wfP
      simp only [*, ne_eq, not_false_eq_true, decide_true, decide_false, Bool.not_true, Bool.not_false, Bool.and_true, Bool.true_and, Bool.and_false, Bool.false_and] <;> rfl
    rw [e]; exact ⟨kP, rfl, rfl⟩
  ·
   iterate 3 refine sV rfl rfl rfl ?_
   iterate 6 refine sN rfl rfl ?_
   iterate 2 refine sV rfl rfl rfl ?_
   iterate 6 refine sN rfl rfl ?_
   iterate 2 refine sV rfl rfl rfl ?_
   iterate 6 refine sN rfl rfl ?_
   refine sV rfl rfl rfl ?_
   show TrP 111 _ _ _ _
   refine tH [(0, _), (2, _), (4, _), (5, _), (6, _), (48, _)] ?_
   refine tT rfl ?_
   refine Tri.seq ?_
   refine tR ?_
   refine sV rfl rfl rfl ?_
   show TrP 111 _ _ _ _
   refine tH [(0, _), (2, _), (4, _), (5, _), (6, _), (48, _)] ?_
   refine Tri.ret ?_
   refine ⟨trivial, _, rfl, ?_⟩
   have e : wfS1 x = false := by
     clear hL hsub hval hargs hthn hels hht hh1 hh2 hh3 hlx
     unfold wfS1 wfP
     simp only [*, ne_eq, not_false_eq_true, decide_true, decide_false, Bool.not_true, Bool.not_false, Bool.and_true, Bool.true_and, Bool.and_false, Bool.false_and] <;> rfl
   rw [e]; exact ⟨kP, rfl, rfl⟩
 ·
  refine sO rfl rfl (oAlloc (cs := [.bool false, .bool false, .bool false, .bool false, .bool false, .bool false, .bool false, .bool false]) rfl rfl ?_)
  refine sO rfl rfl (oStore (n := 8) (cs' := [_, _, _, _, _, _, _, _]) rfl rfl rfl gG rfl (Nat.le_of_ble_eq_true rfl) rfl rfl ?_)
  refine sV rfl rfl rfl ?_
  show TrP 111 _ _ _ _
  refine tH [(0, _), (2, _), (4, _), (5, _), (6, _)] ?_
  refine Tri.seq ?_
  refine Tri.seq ?_
  refine tR ?_
  iterate 3 refine sV rfl rfl rfl ?_
  iterate 6 refine sN rfl rfl ?_
  iterate 2 refine sV rfl rfl rfl ?_
  iterate 6 refine sN rfl rfl ?_
  iterate 2 refine sV rfl rfl rfl ?_
  iterate 6 refine sN rfl rfl ?_
  iterate 2 refine sV rfl rfl rfl ?_
  iterate 6 refine sN rfl rfl ?_
  refine sV rfl rfl rfl ?_
  show TrP 111 _ _ _ _
  refine tH [(0, _), (2, _), (4, _), (5, _), (6, _), (48, _)] ?_
  refine tT rfl ?_
  refine Tri.seq ?_
  refine tR ?_
  refine sV rfl rfl rfl ?_
  show TrP 111 _ _ _ _
  refine tH [(0, _), (2, _), (4, _), (5, _), (6, _), (48, _)] ?_
  refine Tri.ret ?_
  refine ⟨trivial, _, rfl, ?_⟩
  have e : wfS1 x = false := by
    clear hL hsub hval hargs hthn hels hht hh1 hh2 hh3 hlx
    unfold wfS1 wfP
    simp only [*, ne_eq, not_false_eq_true, decide_true, decide_false, Bool.not_true, Bool.not_false, Bool.and_true, Bool.true_and, Bool.and_false, Bool.false_and] <;> rfl
  rw [e]; exact ⟨kP, rfl, rfl⟩
noncomputable def wfSl (l : List Stm) : Bool := (preSl 0 l).all fun a => wfS1 a.1
noncomputable def stepM (_ : Unit) (a : Stm × Nat) : Bool × Unit := (wfS1 a.1, ())
theorem cloM (H : Heap) : Clo LM htS H 36 [] [] (fun (_ : Unit) G => Kp [] H G) stepM :=
  ⟨fnOk_of Try.func36 (by decide) rfl, fun _ _ _ h k => h.trans0 k, fun _ _ h => h, fun _ _ _ i hi => (by cases hi), fun s a d G cs h hr hh => (wfStmt_ok a d cs G (hr.kp h) hh).mono fun u G' ⟨h1, h2⟩ => ⟨h1, fun _ => (by rw [h2]; exact h), by rw [h2]; exact Kp.refl⟩⟩
theorem wfS_call {l : List Stm} {H : Heap} {p : Option (Nat × Nat)} (hrow : RowQ H 17 (LM H) l p) (hl : ∀ s ∈ l, htS s < 2305843009213693952) (hlen : l.length < 2305843009213693952) {G : Heap} (hk : Kp [] H G) :
    Sim Try.prog 28 [at' (.slice p l.length), at' (.int .i64 (0 : Nat)), at' (.fn 36 [])] G fun u G' => u = at' (.bool (wfSl l)) ∧ Kp [] G G' := by
  have h := walkStmts_ok (cloM H) 2305843009213693952 l () 0 G p hl hk hrow (Nat.le_refl _) (by omega) (by omega)
  rw [show (runL stepM () (preSl 0 l)).1 = wfSl l from runL_all _ _] at h
  exact h.mono fun u G' ⟨h1, _, h3⟩ => ⟨h1, h3⟩
/-- No row and no tree of it is longer or higher than an index reaches. -/
def LowP (p : Pr) : Prop := p.arrays.length < 2305843009213693952 ∧ p.funcs.length < 2305843009213693952 ∧ ∀ f ∈ p.funcs, Low f ∧ f.params.length < 2305843009213693952 ∧ f.locals.length < 2305843009213693952
noncomputable def wfF (f : Fn1) : Bool := vName f.name && (f.params.all vName && (f.locals.all vName && (wfX f.value && wfSl f.body)))
noncomputable def wfA (a : Ar) : Bool := vName a.name
noncomputable def wfPr (p : Pr) : Bool := p.arrays.all wfA && p.funcs.all wfF

theorem wellFormed_ok (p : Pr) (cs : List AT) (H : Heap) (hL : LPr H p cs) (hlow : LowP p) : Sim Try.prog 15 [.one (.agg cs)] H (fun u G => u = at' (.bool (wfPr p)) ∧ G = H) := by
 obtain ⟨pa, pf, rfl, hA, hF⟩ := hL
 obtain ⟨hlow1, hlow2, hlow3⟩ := hlow
 refine Sim.trim ?_
 refine Sim.of_tri Try.func15 rfl ?_
 show TrP 55 _ _ _ _
 refine Tri.seq ?_
 refine tR ?_
 refine sO rfl rfl (oBox (cs := [_, _]) rfl rfl ?_)
 refine sV rfl rfl rfl ?_
 show TrP 55 _ _ _ _
 refine tH [(0, _), (1, _), (2, _)] ?_
 refine Tri.seq ?_
 refine Tri.seq ?_
 refine tR ?_
 refine sO rfl rfl (oW (at' (.ptr (some (_, 0)))) rfl rfl ?_)
 refine sO rfl rfl (oLoad (x := .at _) rfl gG rfl ?_)
 iterate 2 refine sV rfl rfl rfl ?_
 show TrP 55 _ _ _ _
 refine tH [(0, _), (1, _), (2, _), (8, _), (9, _), (10, _)] ?_
 refine Tri.block ?_
 refine Tri.loop (fun k lk1 H1 => ∃ j : Nat, k = p.arrays.length - j ∧ j ≤ p.arrays.length ∧ (p.arrays.take j).all wfA = true ∧ Kp [] H H1 ∧ H1.get H.n = some (.cells 32 1 [.slice pa p.arrays.length, .slice pf p.funcs.length]) ∧ Has lk1 [(1, at' (.ptr (some (H.n, 0)))), (8, at' (.slice pa p.arrays.length)), (9, at' (.int .i64 p.arrays.length)), (10, at' (.int .i64 j))]) (p.arrays.length) (⟨0, rfl, by omega, by simp, kP, gG, ⟨rfl, rfl, rfl, rfl, trivial⟩⟩) ?_
 rintro k lk1 H1 ⟨j, hk3, hj, hall, hkp, hcell, hh⟩
 refine Tri.has hh ?_
 have hkpn := hkp.n
 have hlt := Heap.get_lt hcell
 refine Tri.seq ?_
 refine tR ?_
 refine sO rfl rfl (oP rfl (fun h11 => ?_) (fun h11 => ?_))
 ·
  show TrP 55 _ _ _ _
  refine tH [(1, _), (8, _), (9, _), (10, _), (11, _)] ?_
  refine Tri.seq ?_
  refine tT rfl ?_
  refine Tri.skip ?_
  show TrP 55 _ _ _ _
  refine tH [(1, _), (8, _), (9, _), (10, _), (11, _)] ?_
  refine Tri.seq ?_
  refine Tri.block ?_
  refine Tri.seq ?_
  refine tR ?_
  obtain ⟨x, hx⟩ : ∃ x, p.arrays[j]? = some x := ⟨_, List.getElem?_eq_getElem (by omega)⟩
  obtain ⟨id, o, T, q, c, rfl, hg0, hle, hcs⟩ := hA.at hx
  have hg := hkp.get hg0 rfl
  refine sO rfl rfl (oIA (z := 2) rfl rfl rfl rfl (by omega) ?_)
  refine sO rfl rfl (oLoad (x := .agg [.str x.name, .int .i64 x.len]) rfl gG (part_all hcs hle rfl rfl rfl) ?_)
  refine sO rfl rfl (oAlloc (cs := [.str [], .int .i64 0]) rfl rfl ?_)
  refine sO rfl rfl (oStore (n := 2) (cs' := [_, _]) rfl rfl rfl gG rfl (Nat.le_of_ble_eq_true rfl) rfl rfl ?_)
  show TrP 55 _ _ _ _
  refine tH [(1, _), (4, _), (8, _), (9, _), (10, _), (11, _)] ?_
  refine Tri.seq ?_
  refine tR ?_
  refine sO rfl rfl (oW (at' (.ptr (some (_, 0)))) rfl rfl ?_)
  refine sO rfl rfl (oLoad (x := .at _) rfl gG rfl ?_)
  refine sO rfl rfl (oFB rfl (fnOk_of Try.func32 (by decide) rfl) (validName_ok _ _) (fun h16 => ?_) (fun h16 => ?_))
  ·
   refine sV rfl rfl rfl ?_
   show TrP 55 _ _ _ _
   refine tH [(1, _), (4, _), (8, _), (9, _), (10, _), (11, _), (17, _)] ?_
   refine tF rfl ?_
   refine Tri.skip ?_
   show TrP 55 _ _ _ _
   refine tH [(1, _), (4, _), (8, _), (9, _), (10, _), (11, _), (17, _)] ?_
   refine tR ?_
   refine sO rfl rfl (oAdd (m := 1) rfl (by omega) ?_)
   refine sV rfl rfl rfl ?_
   exact ⟨p.arrays.length - (j + 1), by omega, j + 1, rfl, by omega, all_snoc hall hx (show wfA x = true from h16), hkp.trans0 kZ, gG, ⟨rfl, rfl, rfl, rfl, trivial⟩⟩
  ·
   refine sV rfl rfl rfl ?_
   show TrP 55 _ _ _ _
   refine tH [(1, _), (4, _), (8, _), (9, _), (10, _), (11, _), (17, _)] ?_
   refine tT rfl ?_
   refine Tri.seq ?_
   refine tR ?_
   refine sV rfl rfl rfl ?_
   show TrP 55 _ _ _ _
   refine tH [(1, _), (2, _), (4, _), (8, _), (9, _), (10, _), (11, _), (17, _)] ?_
   refine Tri.ret ?_
   refine ⟨trivial, _, rfl, ?_⟩
   have e : wfPr p = false := by unfold wfPr; rw [all_no hx (show wfA x = false from h16)]; rfl
   rw [e]; exact ⟨hkp.trans0 kZ, rfl, rfl⟩
 ·
  show TrP 55 _ _ _ _
  refine tH [(1, _), (8, _), (9, _), (10, _), (11, _)] ?_
  refine Tri.seq ?_
  refine tF rfl ?_
  refine Tri.exit ?_
  show TrP 55 _ _ _ _
  refine tH [(1, _), (8, _), (9, _), (10, _), (11, _)] ?_
  refine Tri.seq ?_
  refine Tri.seq ?_
  refine tR ?_
  refine sO rfl rfl (oW (at' (.ptr (some (_, 1)))) rfl rfl ?_)
  refine sO rfl rfl (oLoad (x := .at _) rfl gG rfl ?_)
  iterate 2 refine sV rfl rfl rfl ?_
  show TrP 55 _ _ _ _
  refine tH [(1, _), (8, _), (9, _), (10, _), (11, _), (20, _), (21, _), (22, _)] ?_
  refine Tri.block ?_
  refine Tri.loop (fun k lk1 H1 => ∃ j : Nat, k = p.funcs.length - j ∧ j ≤ p.funcs.length ∧ (p.funcs.take j).all wfF = true ∧ Kp [] H H1 ∧ Has lk1 [(20, at' (.slice pf p.funcs.length)), (21, at' (.int .i64 p.funcs.length)), (22, at' (.int .i64 j))]) (p.funcs.length) (⟨0, rfl, by omega, by simp, hkp, ⟨rfl, rfl, rfl, trivial⟩⟩) ?_
  rintro k lk1 H1 ⟨j, hk4, hj, hall2, hkp, hh⟩
  refine Tri.has hh ?_
  have hkpn := hkp.n
  refine Tri.seq ?_
  refine tR ?_
  refine sO rfl rfl (oP rfl (fun h23 => ?_) (fun h23 => ?_))
  ·
   show TrP 55 _ _ _ _
   refine tH [(20, _), (21, _), (22, _), (23, _)] ?_
   refine Tri.seq ?_
   refine tT rfl ?_
   refine Tri.skip ?_
   show TrP 55 _ _ _ _
   refine tH [(20, _), (21, _), (22, _), (23, _)] ?_
   refine Tri.seq ?_
   refine Tri.block ?_
   refine Tri.seq ?_
   refine tR ?_
   obtain ⟨f, hf⟩ : ∃ f, p.funcs[j]? = some f := ⟨_, List.getElem?_eq_getElem (by omega)⟩
   obtain ⟨⟨hv1, hv2, hv3⟩, hv4, hv5⟩ := hlow3 f (List.mem_of_getElem? hf)
   obtain ⟨id, o, T, q, c, rfl, hg0, hle, hLf⟩ := hF.at hf
   have hg := hkp.get hg0 rfl
   obtain ⟨pp, pl, pb, b1, b2, b3, b4, b5, nb, hcs, hpar, hloc, hbody, hval⟩ := hLf.out
   refine sO rfl rfl (oIA (z := 9) rfl rfl rfl rfl (by omega) ?_)
   refine sO rfl rfl (oLoad (x := .agg [.str f.name, .slice pp f.params.length, .slice pl f.locals.length, .slice pb f.body.length, .int .i64 b1, .int .i64 b2, .str b3, .int .i64 b4, .slice b5 nb]) rfl gG (part_all hcs hle rfl rfl rfl) ?_)
   refine sO rfl rfl (oAlloc (cs := [.str [], .slice none 0, .slice none 0, .slice none 0, .int .i64 0, .int .i64 0, .str [], .int .i64 0, .slice none 0]) rfl rfl ?_)
   refine sO rfl rfl (oStore (n := 9) (cs' := [_, _, _, _, _, _, _, _, _]) rfl rfl rfl gG rfl (Nat.le_of_ble_eq_true rfl) rfl rfl ?_)
   show TrP 55 _ _ _ _
   refine tH [(6, _), (20, _), (21, _), (22, _), (23, _)] ?_
   refine Tri.seq ?_
   refine tR ?_
   refine sO rfl rfl (oW (at' (.ptr (some (_, 0)))) rfl rfl ?_)
   refine sO rfl rfl (oLoad (x := .at _) rfl gG rfl ?_)
   refine sO rfl rfl (oFB rfl (fnOk_of Try.func32 (by decide) rfl) (validName_ok _ _) (fun h28 => ?_) (fun h28 => ?_))
   ·
    iterate 2 refine sV rfl rfl rfl ?_
    refine sO rfl rfl (oW (at' (.ptr (some (_, 1)))) rfl rfl ?_)
    refine sO rfl rfl (oLoad (x := .at _) rfl gG rfl ?_)
    refine sO rfl rfl (oFB rfl (fnOk_of Try.func33 (by decide) rfl) (validNames_ok f.params _ _ (RowQ.imp hpar (hkp.trans0 kZ) (fun _ _ _ h => h)) (by omega)) (fun h33 => ?_) (fun h33 => ?_))
    ·
     iterate 3 refine sV rfl rfl rfl ?_
     refine sO rfl rfl (oW (at' (.ptr (some (_, 2)))) rfl rfl ?_)
     refine sO rfl rfl (oLoad (x := .at _) rfl gG rfl ?_)
     refine sO rfl rfl (oFB rfl (fnOk_of Try.func33 (by decide) rfl) (validNames_ok f.locals _ _ (RowQ.imp hloc (hkp.trans0 kZ) (fun _ _ _ h => h)) (by omega)) (fun h39 => ?_) (fun h39 => ?_))
     ·
      iterate 3 refine sV rfl rfl rfl ?_
      refine sO rfl rfl (oW (at' (.ptr (some (_, 4)))) rfl rfl ?_)
      refine sO rfl rfl (oLoad (x := .agg [_, _, _, _, _]) rfl gG rfl ?_)
      refine sO rfl rfl (oCB rfl (fnOk_of Try.func34 (by decide) rfl) (wfX_call (LX.kp (hkp.trans0 kZ) _ _ hval) (by omega)) (fun G1 hK h45 => ?_) (fun G1 hK h45 => ?_))
      ·
       have hc6 : G1.get H1.n = some (.cells 28 1 [.str f.name, .slice pp f.params.length, .slice pl f.locals.length, .slice pb f.body.length, .int .i64 b1, .int .i64 b2, .str b3, .int .i64 b4, .slice b5 nb]) := hK.get gG rfl
       have hkp1 : Kp [] H G1 := (hkp.trans0 kZ).trans0 hK
       have hlt1 := Heap.get_lt hc6
       iterate 3 refine sV rfl rfl rfl ?_
       refine sO rfl rfl (oW (at' (.ptr (some (_, 3)))) rfl rfl ?_)
       refine sO rfl rfl (oLoad (x := .at _) rfl gG rfl ?_)
       refine sO rfl rfl (oCB rfl (fnOk_of Try.func28 (by decide) rfl) (wfS_call hbody hv2 hv3 hkp1) (fun G2 hK2 h51 => ?_) (fun G2 hK2 h51 => ?_))
       ·
        iterate 2 refine sV rfl rfl rfl ?_
        show TrP 55 _ _ _ _
        refine tH [(6, _), (20, _), (21, _), (22, _), (23, _), (53, _)] ?_
        refine tF rfl ?_
        refine Tri.skip ?_
        show TrP 55 _ _ _ _
        refine tH [(6, _), (20, _), (21, _), (22, _), (23, _), (53, _)] ?_
        refine tR ?_
        refine sO rfl rfl (oAdd (m := 1) rfl (by omega) ?_)
        refine sV rfl rfl rfl ?_
        have e0 : wfF f = true := by unfold wfF; simp only [*, ne_eq, not_false_eq_true, decide_true, decide_false, Bool.not_true, Bool.not_false, Bool.and_true, Bool.true_and, Bool.and_false, Bool.false_and]
        exact ⟨p.funcs.length - (j + 1), by omega, j + 1, rfl, by omega, all_snoc hall2 hf e0, hkp1.trans0 hK2, ⟨rfl, rfl, rfl, trivial⟩⟩
       ·
        iterate 2 refine sV rfl rfl rfl ?_
        show TrP 55 _ _ _ _
        refine tH [(6, _), (20, _), (21, _), (22, _), (23, _), (53, _)] ?_
        refine tT rfl ?_
        refine Tri.seq ?_
        refine tR ?_
        refine sV rfl rfl rfl ?_
        show TrP 55 _ _ _ _
        refine tH [(2, _), (6, _), (20, _), (21, _), (22, _), (23, _), (53, _)] ?_
        refine Tri.ret ?_
        refine ⟨trivial, _, rfl, ?_⟩
        have e0 : wfF f = false := by unfold wfF; simp only [*, ne_eq, not_false_eq_true, decide_true, decide_false, Bool.not_true, Bool.not_false, Bool.and_true, Bool.true_and, Bool.and_false, Bool.false_and]
        have e : wfPr p = false := by unfold wfPr; rw [all_no hf e0, Bool.and_false]
        rw [e]
        first
          | exact ⟨hkp1.trans0 hK2, rfl, rfl⟩
          | exact ⟨hkp1, rfl, rfl⟩
          | exact ⟨hkp.trans0 kZ, rfl, rfl⟩
      ·
       have hc6 : G1.get H1.n = some (.cells 28 1 [.str f.name, .slice pp f.params.length, .slice pl f.locals.length, .slice pb f.body.length, .int .i64 b1, .int .i64 b2, .str b3, .int .i64 b4, .slice b5 nb]) := hK.get gG rfl
       have hkp1 : Kp [] H G1 := (hkp.trans0 kZ).trans0 hK
       have hlt1 := Heap.get_lt hc6
       iterate 3 refine sV rfl rfl rfl ?_
       iterate 4 refine sN rfl rfl ?_
       refine sV rfl rfl rfl ?_
       show TrP 55 _ _ _ _
       refine tH [(6, _), (20, _), (21, _), (22, _), (23, _), (53, _)] ?_
       refine tT rfl ?_
       refine Tri.seq ?_
       refine tR ?_
       refine sV rfl rfl rfl ?_
       show TrP 55 _ _ _ _
       refine tH [(2, _), (6, _), (20, _), (21, _), (22, _), (23, _), (53, _)] ?_
       refine Tri.ret ?_
       refine ⟨trivial, _, rfl, ?_⟩
       have e0 : wfF f = false := by unfold wfF; simp only [*, ne_eq, not_false_eq_true, decide_true, decide_false, Bool.not_true, Bool.not_false, Bool.and_true, Bool.true_and, Bool.and_false, Bool.false_and]
       have e : wfPr p = false := by unfold wfPr; rw [all_no hf e0, Bool.and_false]
       rw [e]
       first
         | exact ⟨hkp1.trans0 hK2, rfl, rfl⟩
         | exact ⟨hkp1, rfl, rfl⟩
         | exact ⟨hkp.trans0 kZ, rfl, rfl⟩
     ·
      iterate 3 refine sV rfl rfl rfl ?_
      iterate 4 refine sN rfl rfl ?_
      iterate 2 refine sV rfl rfl rfl ?_
      iterate 4 refine sN rfl rfl ?_
      refine sV rfl rfl rfl ?_
      show TrP 55 _ _ _ _
      refine tH [(6, _), (20, _), (21, _), (22, _), (23, _), (53, _)] ?_
      refine tT rfl ?_
      refine Tri.seq ?_
      refine tR ?_
      refine sV rfl rfl rfl ?_
      show TrP 55 _ _ _ _
      refine tH [(2, _), (6, _), (20, _), (21, _), (22, _), (23, _), (53, _)] ?_
      refine Tri.ret ?_
      refine ⟨trivial, _, rfl, ?_⟩
      have e0 : wfF f = false := by unfold wfF; simp only [*, ne_eq, not_false_eq_true, decide_true, decide_false, Bool.not_true, Bool.not_false, Bool.and_true, Bool.true_and, Bool.and_false, Bool.false_and]
      have e : wfPr p = false := by unfold wfPr; rw [all_no hf e0, Bool.and_false]
      rw [e]
      first
        | exact ⟨hkp1.trans0 hK2, rfl, rfl⟩
        | exact ⟨hkp1, rfl, rfl⟩
        | exact ⟨hkp.trans0 kZ, rfl, rfl⟩
    ·
     iterate 3 refine sV rfl rfl rfl ?_
     iterate 4 refine sN rfl rfl ?_
     iterate 2 refine sV rfl rfl rfl ?_
     iterate 4 refine sN rfl rfl ?_
     iterate 2 refine sV rfl rfl rfl ?_
     iterate 4 refine sN rfl rfl ?_
     refine sV rfl rfl rfl ?_
     show TrP 55 _ _ _ _
     refine tH [(6, _), (20, _), (21, _), (22, _), (23, _), (53, _)] ?_
     refine tT rfl ?_
     refine Tri.seq ?_
     refine tR ?_
     refine sV rfl rfl rfl ?_
     show TrP 55 _ _ _ _
     refine tH [(2, _), (6, _), (20, _), (21, _), (22, _), (23, _), (53, _)] ?_
     refine Tri.ret ?_
     refine ⟨trivial, _, rfl, ?_⟩
     have e0 : wfF f = false := by unfold wfF; simp only [*, ne_eq, not_false_eq_true, decide_true, decide_false, Bool.not_true, Bool.not_false, Bool.and_true, Bool.true_and, Bool.and_false, Bool.false_and]
     have e : wfPr p = false := by unfold wfPr; rw [all_no hf e0, Bool.and_false]
     rw [e]
     first
       | exact ⟨hkp1.trans0 hK2, rfl, rfl⟩
       | exact ⟨hkp1, rfl, rfl⟩
       | exact ⟨hkp.trans0 kZ, rfl, rfl⟩
   ·
    iterate 2 refine sV rfl rfl rfl ?_
    iterate 4 refine sN rfl rfl ?_
    iterate 2 refine sV rfl rfl rfl ?_
    iterate 4 refine sN rfl rfl ?_
    iterate 2 refine sV rfl rfl rfl ?_
    iterate 4 refine sN rfl rfl ?_
    iterate 2 refine sV rfl rfl rfl ?_
    iterate 4 refine sN rfl rfl ?_
    refine sV rfl rfl rfl ?_
    show TrP 55 _ _ _ _
    refine tH [(6, _), (20, _), (21, _), (22, _), (23, _), (53, _)] ?_
    refine tT rfl ?_
    refine Tri.seq ?_
    refine tR ?_
    refine sV rfl rfl rfl ?_
    show TrP 55 _ _ _ _
    refine tH [(2, _), (6, _), (20, _), (21, _), (22, _), (23, _), (53, _)] ?_
    refine Tri.ret ?_
    refine ⟨trivial, _, rfl, ?_⟩
    have e0 : wfF f = false := by unfold wfF; simp only [*, ne_eq, not_false_eq_true, decide_true, decide_false, Bool.not_true, Bool.not_false, Bool.and_true, Bool.true_and, Bool.and_false, Bool.false_and]
    have e : wfPr p = false := by unfold wfPr; rw [all_no hf e0, Bool.and_false]
    rw [e]
    first
      | exact ⟨hkp1.trans0 hK2, rfl, rfl⟩
      | exact ⟨hkp1, rfl, rfl⟩
      | exact ⟨hkp.trans0 kZ, rfl, rfl⟩
  ·
   show TrP 55 _ _ _ _
   refine tH [(20, _), (21, _), (22, _), (23, _)] ?_
   refine Tri.seq ?_
   refine tF rfl ?_
   refine Tri.exit ?_
   show TrP 55 _ _ _ _
   refine tH [(20, _), (21, _), (22, _), (23, _)] ?_
   refine Tri.seq ?_
   refine tR ?_
   refine sV rfl rfl rfl ?_
   show TrP 55 _ _ _ _
   refine tH [(2, _), (20, _), (21, _), (22, _), (23, _)] ?_
   refine Tri.ret ?_
   refine ⟨trivial, _, rfl, ?_⟩
   have e : wfPr p = true := by unfold wfPr; rw [List.take_of_length_le (by omega)] at hall hall2; rw [hall, hall2]; rfl
   rw [e]; exact ⟨hkp, rfl, rfl⟩
end Go.Proofs.Ytceakkomleaibaa
