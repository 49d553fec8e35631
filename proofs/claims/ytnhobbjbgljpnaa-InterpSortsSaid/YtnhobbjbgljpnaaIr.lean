/-
  Run's outcome by name (as in Ik, without the walks of the laws). Written in session 3.
-/
import Derived.Test.YtnhobbjbgljpnaaIh
import Derived.Test.YtnhobbjbgljpnaaIj
import Derived.Test.YtnhobbjbgljpnaaIx
namespace Go.Proofs.Ytnhobbjbgljpnaa
open Go.Ea
set_option maxRecDepth 100000
set_option linter.unusedVariables false
set_option linter.unusedSimpArgs false
theorem run_len (p : Pr) (nm : List UInt8) (args : List Int) (fuel : Int) : (runS p nm args fuel).out.length ≤ 201000 := by
  unfold runS
  split
  · exact Nat.zero_le _
  · rename_i h
    have hv := valid_of (p := p) (by
      by_cases e : chkS p = 0
      · exact e
      · exact absurd (.inl e) h)
    cases hg : fnOf p nm with
    | none => exact Nat.zero_le _
    | some g =>
      simp only []
      split
      · exact Nat.zero_le _
      · have ho : (ocS p g args fuel.toNat).out = (endS p g args fuel.toNat).out := by unfold ocS; (repeat' split) <;> rfl
        rw [ho]
        have hb : ∀ t g, fnOf p t = some g → nStl g.body ≤ 200 := fun t g ht => (hv.ok g (mem_of_fnOf ht).1).2.2.2.1
        have := exL_pot (M := 200) hb g.body ⟨⟨fuel.toNat, 0, 0⟩, arr0 p.arrays, bind g.params args, []⟩ (hb _ _ hg)
        have h2 := hb _ _ hg
        have h3 : fuel.toNat ≤ 1000 := by omega
        simp only [List.length_nil] at this
        show (exL (fnOf p) g.body ⟨⟨fuel.toNat, 0, 0⟩, arr0 p.arrays, bind g.params args, []⟩).out.length ≤ 201000
        omega
/-- Run, its outcome by name. -/
theorem RunO (p : Pr) (cs : List AT) (nm : List UInt8) (args : List Int) (q : Option (Nat × Nat)) (fuel : Int) (H : Heap) (hL : LPr H p cs) (hlow : LowP p) (hq : RowR H numC 1 args q) (o : OC) (ho : runS p nm args fuel = o) :
    Sim Try.prog 14 [.one (.agg cs), at' (.str nm), at' (.slice q args.length), at' (.int .i64 fuel)] H (fun u G => ∃ r, u = .one (.agg [.int .i64 o.kind, .int .i64 o.code, .slice r o.out.length, .int .i64 o.value]) ∧ RowR G numC 1 o.out r ∧ (∀ p, r = some p → H.n ≤ p.1 ∧ p.1 < G.n) ∧ o.out.length ≤ 201000 ∧ Kp [] H G) :=
  (Run_ok p cs nm args q fuel H hL hlow hq).mono fun u G ⟨a, h1, h2, h3⟩ => by
    rw [ho] at h1 h2
    obtain ⟨r, rfl, hr⟩ : ∃ r, a = .slice r o.out.length ∧ RowR G numC 1 o.out r := RowA.r (f := numC) (xs := o.out) (by rw [← numsC_fm]; exact h2) (fun _ => rfl)
    refine ⟨r, h1, hr, fun p hp => ?_, by rw [← ho]; exact run_len _ _ _ _, h3⟩
    subst hp
    obtain ⟨i, f⟩ := p
    exact h2.rid i (by simp [rid])
end Go.Proofs.Ytnhobbjbgljpnaa
