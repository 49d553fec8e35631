/-
  Rows.CheckerSingleErrorSaid: A valid program with one violation is rejected with the error of its kind. No conditions. The walk is in YtceakkomleaibaaCg; here the frame about it.
-/
import Derived.Test.YtceakkomleaibaaRows
import Derived.Test.YtceakkomleaibaaCg
import Derived.WalkKit
namespace Go.Proofs.Ytceakkomleaibaa.checkerSingleError
open Go.ChangeShapes Go.WideShapes Go.ChangeAt Go.RowKit Go.Ea
set_option linter.unusedVariables false
set_option linter.unusedSimpArgs false
set_option maxRecDepth 100000

theorem own : ownKnob Try.prog.godebug = none := by kernel_rfl
theorem laidOut : laidOutB Try.prog = true := by kernel_rfl

theorem lifted (os : Os) (started : os.Started) (H : Type) (enc : TypeId × Value → H) :
    ReturnsInHanded {} Try.checked os 5 .any (Rows.checkerSingleErrorSpec.pre6 enc Try.prog Try.f5 Rows.checkerSingleErrorRow.domain false) (Rows.checkerSingleErrorSpec.post enc Try.prog Try.f5 false true false false) := by
  refine returnsInHanded_of_change (C := Try.checked) own started (by kernel_rfl) Try.func5
    (ChangeSpec.witness6 (enc := enc) (C := Try.checked) false ⟨#[], #[.slice none 0 0, .int .i64 0], []⟩ 8 (by kernel_rfl) (by kernel_rfl) (by kernel_rfl) (by kernel_rfl)) ?_
  intro W base args ds gs before hval0 hW hcnd _
  have hval : ∀ (j : Nat) t v, Try.f5.params[j]? = some t → args[j]? = some v → Value.okWide Try.prog W .any base t v := hval0
  have hW' := hW
  obtain ⟨p, q, hA0, hV, rfl, hfz, hnd⟩ := hW
  have hA : DataW.TrodAll enc Try.prog W 0 (fun _ => true) true Try.f5.params.toList args.toList ds p := hA0
  rw [Try.params5] at hA hval
  obtain ⟨v0, vs0, d0, ds0, p0, q0, hargs0, rfl, rfl, h0, r0⟩ := trodAll_cons hA
  obtain ⟨v1, vs1, d1, ds1, p1, q1, hargs1, rfl, rfl, h1, r1⟩ := trodAll_cons r0
  obtain ⟨rfl, rfl, rfl⟩ := trodAll_nil r1
  obtain rfl : args = #[v0, v1] := by cases args; simp_all
  obtain ⟨rfl, rfl⟩ := trodVars_none hV
  obtain ⟨H0, α0, l0, c0, hR0, hro0, hs0, hk0, hv0, hl0, hwf0⟩ := open_intsB (R.start Try.prog W) RO.empty Try.underlying36 Try.underlying3 (by kernel_rfl) (hval 0 36 v0 rfl rfl) h0
  obtain ⟨n1, hv1, hwf1⟩ := open_intA α0 Try.underlying3 (hval 1 3 v1 rfl rfl) h1
  refine (law_true (hR0) hro0 (.cons hv0 (.cons hv1 .nil)) (single_ok l0 c0 n1 H0 hl0)).mono fun e W' ⟨he, hg, hb⟩ => ?_
  subst he
  have hlt : ∀ x ∈ (p0 ++ (p1 ++ [])) ++ [], x.block < W.heap.size := fun x hx => by simpa using hW'.lt x hx
  exact ⟨_, rfl, post_of_same (pa := (p0 ++ (p1 ++ []))) (pv := []) hW' (fun _ _ _ => (trodAll_cons_mk (shut_bool Try.underlying4 _) trodAll_mk0)) (fun sp hsp => (trodAll_cons_mk (WideElems.Trod_stays laidOut (by kernel_rfl) (of_decide_eq_true (by kernel_rfl)) h0 (fun x hx => hb.same (hlt x (by simp [hx]))) (fun x hx => hsp x (by simp [hx]))) (trodAll_cons_mk (WideElems.Trod_stays laidOut (by kernel_rfl) (of_decide_eq_true (by kernel_rfl)) h1 (fun x hx => hb.same (hlt x (by simp [hx]))) (fun x hx => hsp x (by simp [hx]))) trodAll_mk0))) (fun _ _ => rfl) rfl
    (hg.frame _) hg.2.1 (ok_one (by kernel_rfl) rfl (okWide_bool_mk Try.underlying4 _))⟩

theorem over : Rows.checkerSingleErrorRow.holds Try.pinned (OpenSpec.ofChange Rows.checkerSingleErrorSpec) :=
  OpenClaim.holds_of_wide 5 Try.f5 rfl rfl rfl rfl rfl rfl rfl ⟨rfl, rfl, rfl, rfl, rfl⟩ rfl rfl rfl rfl rfl (by kernel_rfl) Try.func5 (by kernel_rfl)
    (of_decide_eq_true (by kernel_rfl)) (by unfold Func.isWrapper; first | (rw [if_pos (by decide +kernel)]; kernel_rfl) | (rw [if_neg (by decide +kernel)]; exact ⟨rfl, rfl⟩))
    (fun os started H enc _ => lifted os started H enc)

theorem proved : Rows.CheckerSingleErrorSaid :=
  over
end Go.Proofs.Ytceakkomleaibaa.checkerSingleError
#print axioms Go.Proofs.Ytceakkomleaibaa.checkerSingleError.proved
