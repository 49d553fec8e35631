/-
  THE CONSTANT PROGRAMS of the laws in plain Lean: that they are valid, and what their runs come to. Written in this session.
-/
import Derived.Test.YtnhobbjbgljpnaaMz
import Derived.Test.YtnhobbjbgljpnaaPe
import Derived.KernelRfl
namespace Go.Proofs.Ytnhobbjbgljpnaa
open Go.Ea
set_option maxRecDepth 100000
set_option linter.unusedVariables false
/-! ### calls -/
def peF : Fn1 := peP.funcs.headD fn0
theorem pe_chk : chkS peP = 0 := by decide +kernel
theorem pe_low : LowP peP := lowB_ok (by decide +kernel)
def down (k F : Nat) : List Int := (List.range (min k F + 1)).map fun i => ((k - i : Nat) : Int)
theorem down_succ (k F : Nat) : (((k + 1 : Nat) : Int)) :: down k F = down (k + 1) (F + 1) := by
  unfold down
  rw [show min (k + 1) (F + 1) + 1 = (min k F + 1) + 1 by omega, List.range_succ_eq_map (n := min k F + 1), List.map_cons, List.map_map]
  exact congrArg (List.cons _) (List.map_congr_left fun i _ => (by show ((k - i : Nat) : Int) = ((k + 1 - (i + 1) : Nat) : Int); omega))
theorem wrap64_eq (n : Int) : wrapA .i64 n = if 9223372036854775808 ≤ n % 18446744073709551616 then n % 18446744073709551616 - 18446744073709551616 else n % 18446744073709551616 := by
  rw [wrapA_eq, wrap_num .i64 n 18446744073709551616 9223372036854775808 (by decide) (by decide)]
  simp [show IntKind.i64.signed = true from rfl]
theorem wrap_mul (a s : Int) : wrapA .i64 (wrapA .i64 (a * s) + s) = wrapA .i64 ((a + 1) * s) := by
  rw [Int.add_mul, Int.one_mul]
  generalize a * s = t
  rw [wrap64_eq, wrap64_eq t, wrap64_eq (t + s)]
  (repeat' split) <;> omega
theorem calls_body (s : Int) (A : Arrs) : ∀ (k F : Nat) (out : List Int) (f : Vars), k < 1000 → f [110] = k → f [115] = s → f [114] = 0 → (k ≤ F → ∃ f', exL (fnOf peP) peF.body ⟨⟨F, 0, 0⟩, A, f, out⟩ = ⟨⟨F - k, 0, 0⟩, A, f', out ++ down k F⟩ ∧ f' [114] = wrapA .i64 (k * s)) ∧
    (¬ k ≤ F → ∃ f', exL (fnOf peP) peF.body ⟨⟨F, 0, 0⟩, A, f, out⟩ = ⟨⟨0, 3, 0⟩, A, f', out ++ down k F⟩)
  | 0, F, out, f, _, hn, hs, hr => by
    refine ⟨fun _ => ⟨f, ?_, by rw [hr]; simp; rfl⟩, fun h => absurd (Nat.zero_le _) h⟩
    show exL (fnOf peP) [_, _] _ = _
    rw [exL_cons, if_neg (by simp), exS_out, show evX A f (.mk 2 0 [110] 0 []) ⟨F, 0, 0⟩ = (⟨F, 0, 0⟩, 0) from evB_ok 3 (by show some (_, f [110]) = _; rw [hn]; rfl)]
    simp only [if_true]
    rw [exL_cons, if_neg (by simp), exS_if]
    have e : evX A f (.mk 4 0 [] 17 [(.mk 1 0 [] 0 []), (.mk 2 0 [110] 0 [])]) ⟨F, 0, 0⟩ = (⟨F, 0, 0⟩, 0) := evB_ok 3 (by show (if f [110] = 0 ∧ ((17 : Int) = 7 ∨ (17 : Int) = 8) then some _ else some (_, binW 17 0 (f [110]))) = _; rw [hn]; rfl)
    simp only [e]
    rw [if_neg (by simp), exL_nil, exL_nil]
    simp [down]
  | k + 1, F, out, f, hk, hn, hs, hr => by
    have e1 : evX A f (.mk 2 0 [110] 0 []) ⟨F, 0, 0⟩ = (⟨F, 0, 0⟩, ((k + 1 : Nat) : Int)) := evB_ok 3 (by show some (_, f [110]) = _; rw [hn])
    have e2 : evX A f (.mk 4 0 [] 17 [(.mk 1 0 [] 0 []), (.mk 2 0 [110] 0 [])]) ⟨F, 0, 0⟩ = (⟨F, 0, 0⟩, 1) := evB_ok 3 (by
      show (if f [110] = 0 ∧ ((17 : Int) = 7 ∨ (17 : Int) = 8) then some _ else some (_, binW 17 0 (f [110]))) = _
      rw [if_neg (by omega), hn]
      have : binW 17 0 ((k + 1 : Nat) : Int) = 1 := by
        show truS (decide ((0 : Int) < ((k + 1 : Nat) : Int))) = 1
        rw [decide_eq_true (by omega)]; rfl
      rw [this])
    have e3 : evL A f [(.mk 4 0 [] 5 [(.mk 2 0 [110] 0 []), (.mk 1 1 [] 0 [])]), (.mk 2 0 [115] 0 [])] ⟨F, 0, 0⟩ = (⟨F, 0, 0⟩, [(k : Int), s]) := evLB_ok (n := 3) _ (by
      show some (_, [binW 5 (f [110]) 1, f [115]]) = _
      rw [hn, hs]
      have : binW 5 ((k + 1 : Nat) : Int) 1 = (k : Int) := by
        show wrapA .i64 (((k + 1 : Nat) : Int) - 1) = _
        rw [show ((k + 1 : Nat) : Int) - 1 = (k : Int) by omega]
        exact wrapA_small (by show k < 9223372036854775808; omega)
      rw [this])
    have st : exL (fnOf peP) peF.body ⟨⟨F, 0, 0⟩, A, f, out⟩ = exL (fnOf peP) [(.mk 6 [114] [102] 0 (.mk 0 0 [] 0 []) (.mk 0 0 [] 0 []) [(.mk 4 0 [] 5 [(.mk 2 0 [110] 0 []), (.mk 1 1 [] 0 [])]), (.mk 2 0 [115] 0 [])] [] []), (.mk 1 [114] [] 0 (.mk 0 0 [] 0 []) (.mk 4 0 [] 4 [(.mk 2 0 [114] 0 []), (.mk 2 0 [115] 0 [])]) [] [] [])] ⟨⟨F, 0, 0⟩, A, f, out ++ [((k + 1 : Nat) : Int)]⟩ := by
      show exL (fnOf peP) [_, _] _ = _
      rw [exL_cons, if_neg (by simp), exS_out, e1]
      simp only [if_true]
      rw [exL_cons, if_neg (by simp), exS_if]
      simp only [e2]
      rw [if_pos (by simp), exL_nil]
    rw [st, exL_cons, if_neg (by simp), exS_call (g := peF) _ rfl]
    simp only [e3]
    cases F with
    | zero =>
      refine ⟨fun h => by omega, fun _ => ⟨f, ?_⟩⟩
      rw [if_neg (by simp [tickS]), exL_stop (by simp [tickS])]
      simp [tickS, down]
    | succ F =>
      obtain ⟨h1, h2⟩ := calls_body s A k F (out ++ [((k + 1 : Nat) : Int)]) (bind peF.params [(k : Int), s]) (by omega) rfl rfl rfl
      rw [if_pos (by simp [tickS])]
      simp only [show tickS ⟨F + 1, 0, 0⟩ = ⟨F, 0, 0⟩ from rfl]
      refine ⟨fun q => ?_, fun q => ?_⟩
      · obtain ⟨f', h1, h3⟩ := h1 (by omega)
        rw [h1]
        have e4 : evX A f' peF.value ⟨F - k, 0, 0⟩ = (⟨F - k, 0, 0⟩, wrapA .i64 (k * s)) := evB_ok 3 (by show some (_, f' [114]) = _; rw [h3])
        simp only [e4]
        rw [exL_cons, if_neg (by simp), exS_assign, exL_nil]
        have e5 : evX A (upd1 f [114] (wrapA .i64 (k * s))) (.mk 4 0 [] 4 [(.mk 2 0 [114] 0 []), (.mk 2 0 [115] 0 [])]) ⟨F - k, 0, 0⟩ = (⟨F - k, 0, 0⟩, wrapA .i64 (((k + 1 : Nat) : Int) * s)) := evB_ok 3 (by
          show (if f [115] = 0 ∧ ((4 : Int) = 7 ∨ (4 : Int) = 8) then some _ else some (_, wrapA .i64 (wrapA .i64 (k * s) + f [115]))) = _
          rw [if_neg (by omega), hs, wrap_mul]; rfl)
        simp only [e5]
        refine ⟨upd1 (upd1 f [114] (wrapA .i64 (k * s))) [114] (wrapA .i64 (((k + 1 : Nat) : Int) * s)), ?_, ?_⟩
        · rw [show F + 1 - (k + 1) = F - k by omega, ← down_succ, List.append_assoc]; rfl
        · show upd1 _ [114] _ [114] = _
          unfold upd1; rw [if_pos rfl]
      · obtain ⟨f', h1⟩ := h2 (by omega)
        rw [h1]
        have e4 : evX A f' peF.value ⟨0, 3, 0⟩ = (⟨0, 3, 0⟩, 0) := evX_stop (by show (3 : Int) ≠ 0; decide)
        simp only [e4]
        rw [exL_stop (by show (3 : Int) ≠ 0; decide)]
        exact ⟨_, by rw [← down_succ, List.append_assoc]; rfl⟩
theorem calls_law (k f : Nat) (s : Int) (hk : k < 20) (hf : f < 24) : ∃ o, runS peP [102] [(k : Int), s] (f : Int) = o ∧ o.out = (List.range (min k f + 1)).map (fun i => ((k - i : Nat) : Int)) ∧ (k ≤ f → o.kind = 1 ∧ o.value = wrapA .i64 (k * s)) ∧ (¬ k ≤ f → o.kind = 3) := by
  refine ⟨_, runS_of (g := peF) pe_chk (by omega) rfl rfl, ?_⟩
  obtain ⟨h1, h2⟩ := calls_body s (arr0 peP.arrays) k f [] (bind peF.params [(k : Int), s]) (by omega) rfl rfl rfl
  unfold ocS endV
  have e : endS peP peF [(k : Int), s] f = exL (fnOf peP) peF.body ⟨⟨f, 0, 0⟩, arr0 peP.arrays, bind peF.params [(k : Int), s], []⟩ := rfl
  rw [e]
  by_cases q : k ≤ f
  · obtain ⟨f', h1, h3⟩ := h1 q
    rw [h1]
    have e4 : evX (arr0 peP.arrays) f' peF.value ⟨f - k, 0, 0⟩ = (⟨f - k, 0, 0⟩, wrapA .i64 (k * s)) := evB_ok 3 (by show some (_, f' [114]) = _; rw [h3])
    simp only [e4]
    exact ⟨rfl, fun _ => ⟨rfl, rfl⟩, fun h => absurd q h⟩
  · obtain ⟨f', h1⟩ := h2 q
    rw [h1]
    have e4 : evX (arr0 peP.arrays) f' peF.value ⟨0, 3, 0⟩ = (⟨0, 3, 0⟩, 0) := evX_stop (by show (3 : Int) ≠ 0; decide)
    simp only [e4]
    exact ⟨rfl, fun h => absurd h q, fun _ => rfl⟩
end Go.Proofs.Ytnhobbjbgljpnaa
