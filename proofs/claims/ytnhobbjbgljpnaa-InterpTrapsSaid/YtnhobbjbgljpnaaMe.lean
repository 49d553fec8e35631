/-
  A TRAP IN A LOOP (InterpTraps) in plain Lean: the program with any code, how it lies when its code was written, what it comes to. Written in this session.
-/
import Derived.Test.YtnhobbjbgljpnaaMz
import Derived.Test.YtnhobbjbgljpnaaPf
import Derived.KernelRfl
namespace Go.Proofs.Ytnhobbjbgljpnaa
open Go.Ea
set_option maxRecDepth 100000
set_option linter.unusedVariables false
set_option linter.unusedSimpArgs false
def tpV (s : List UInt8) : Exp := .mk 2 0 s 0 []
def tpS (c : Int) : Stm := .mk 7 [] [] c (.mk 0 0 [] 0 []) (.mk 0 0 [] 0 []) [] [] []
def tpI (c : Int) : Stm := .mk 3 [] [] 0 (.mk 0 0 [] 0 []) (.mk 4 0 [] 15 [tpV [105], tpV [109]]) [] [tpS c] []
def tpO : Stm := .mk 5 [] [] 0 (.mk 0 0 [] 0 []) (tpV [105]) [] [] []
def tpA : Stm := .mk 1 [105] [] 0 (.mk 0 0 [] 0 []) (.mk 4 0 [] 4 [tpV [105], .mk 1 1 [] 0 []]) [] [] []
def tpW (c : Int) : Stm := .mk 4 [] [] 0 (.mk 0 0 [] 0 []) (.mk 4 0 [] 17 [tpV [105], tpV [110]]) [] [tpI c, tpO, tpA] []
def tpF (c : Int) : Fn1 := ⟨[102], [[110], [109]], [[105]], [tpW c], .mk 1 5 [] 0 []⟩
def tpP (c : Int) : Pr := ⟨[], [tpF c]⟩
theorem tp_trap (c : Int) : wfS1 (tpS c) = ((!decide (c < 0) && (!decide (c > 1000000) && true)) && true) := by kernel_rfl
theorem tp_pre (c : Int) : preSl 0 [tpW c] = [(tpW c, 0), (tpI c, 1), (tpS c, 2), (tpO, 1), (tpA, 1)] := by kernel_rfl
theorem tp_wf (c : Int) (h1 : 0 ≤ c) (h2 : c ≤ 1000000) : wfPr (tpP c) = true := by
  have hs : wfSl [tpW c] = true := by
    unfold wfSl
    rw [tp_pre]
    have e1 : wfS1 (tpW c) = true := by kernel_rfl
    have e2 : wfS1 (tpI c) = true := by kernel_rfl
    have e3 : wfS1 (tpS c) = true := by rw [tp_trap, decide_eq_false (by omega), decide_eq_false (by omega)]; rfl
    have e4 : wfS1 tpO = true := by kernel_rfl
    have e5 : wfS1 tpA = true := by kernel_rfl
    simp only [List.all_cons, List.all_nil, e1, e2, e3, e4, e5, Bool.and_true]
  have hf : wfF (tpF c) = true := by
    unfold wfF
    rw [show (tpF c).body = [tpW c] from rfl, hs]
    kernel_rfl
  unfold wfPr
  rw [show (tpP c).funcs = [tpF c] from rfl]
  simp only [List.all_cons, List.all_nil, hf]
  rfl
theorem tp_chk (c : Int) (h1 : 0 ≤ c) (h2 : c ≤ 1000000) : chkS (tpP c) = 0 := by
  unfold chkS
  have e1 : limP (tpP c) = true := by kernel_rfl
  have e2 : dupP (tpP c) = false := by kernel_rfl
  have e3 : resP (tpP c) = 0 := by kernel_rfl
  rw [e1, tp_wf c h1 h2, e2, e3]
  rfl
theorem tp_low (c : Int) : LowP (tpP c) := lowB_ok (by kernel_rfl)
def tpR (c : Int) (k m : Nat) : OC := if m < k then ⟨2, 16 + c, (List.range m).map fun (i : Nat) => (i : Int), 0⟩ else ⟨1, 0, (List.range k).map fun (i : Nat) => (i : Int), 5⟩
theorem tp_all (c : Int) : ((List.range 9).map fun k => (List.range 12).map fun m => ocB 100 (tpP c) (tpF c) [((k : Nat) : Int), ((m : Nat) : Int)] 20) = (List.range 9).map fun k => (List.range 12).map fun m => some (tpR c k m) := by kernel_rfl
theorem tp_run (c : Int) (k m : Nat) (hk : k < 9) (hm : m < 12) : ocB 100 (tpP c) (tpF c) [(k : Int), (m : Int)] 20 = some (tpR c k m) := by
  have h := congrArg (fun l => l[k]?) (tp_all c)
  simp only [List.getElem?_map, List.getElem?_range hk, Option.map_some, Option.some.injEq] at h
  have h := congrArg (fun l => l[m]?) h
  simp only [List.getElem?_map, List.getElem?_range hm, Option.map_some, Option.some.injEq] at h
  exact h
theorem trap_law (c : Nat) (k m : Nat) (hc : c < 1000001) (hk : k < 9) (hm : m < 12) : ∃ o, runS (tpP c) [102] [(k : Int), (m : Int)] ((20 : Nat) : Int) = o ∧
    (m < k → o.kind = 2 ∧ o.code = ((16 + c : Nat) : Int) ∧ o.out.length = m ∧ o.value = 0) ∧ (¬ m < k → o.kind = 1 ∧ o.out.length = k ∧ o.value = 5) := by
  refine ⟨_, (runS_of (g := tpF c) (tp_chk c (by omega) (by omega)) (by decide) rfl rfl).trans (ocB_ok (tp_run c k m hk hm)), fun h => ?_, fun h => ?_⟩
  · unfold tpR; rw [if_pos h]; exact ⟨rfl, by show (16 : Int) + (c : Int) = _; omega, by simp, rfl⟩
  · unfold tpR; rw [if_neg h]; exact ⟨rfl, by simp, rfl⟩
/-! ### how it lies -/
noncomputable abbrev tpX : Heap := outE pfe0 Heap.empty
abbrev tpO151 : AObj := .cells 9 2 [.str [110], .str [109]]
abbrev tpO158 : AObj := .cells 9 2 [.str [105]]
abbrev tpO226 : AObj := .cells 54 2 [.int .i64 2, .int .i64 0, .str [105], .int .i64 0, .slice none 0, .int .i64 2, .int .i64 0, .str [110], .int .i64 0, .slice none 0]
abbrev tpO315 : AObj := .cells 54 2 [.int .i64 2, .int .i64 0, .str [105], .int .i64 0, .slice none 0, .int .i64 2, .int .i64 0, .str [109], .int .i64 0, .slice none 0]
abbrev tpO342 : AObj := .cells 58 2 [.int .i64 7, .str [], .str [], .int .i64 0, .int .i64 0, .int .i64 0, .str [], .int .i64 0, .slice none 0, .int .i64 0, .int .i64 0, .str [], .int .i64 0, .slice none 0, .slice none 0, .slice none 0, .slice none 0]
abbrev tpO461 : AObj := .cells 54 2 [.int .i64 2, .int .i64 0, .str [105], .int .i64 0, .slice none 0, .int .i64 1, .int .i64 1, .str [], .int .i64 0, .slice none 0]
abbrev tpO486 : AObj := .cells 58 2 [.int .i64 3, .str [], .str [], .int .i64 0, .int .i64 0, .int .i64 0, .str [], .int .i64 0, .slice none 0, .int .i64 4, .int .i64 0, .str [], .int .i64 15, .slice (some (315, 0)) 2, .slice none 0, .slice (some (342, 0)) 1, .slice none 0, .int .i64 5, .str [], .str [], .int .i64 0, .int .i64 0, .int .i64 0, .str [], .int .i64 0, .slice none 0, .int .i64 2, .int .i64 0, .str [105], .int .i64 0, .slice none 0, .slice none 0, .slice none 0, .slice none 0, .int .i64 1, .str [105], .str [], .int .i64 0, .int .i64 0, .int .i64 0, .str [], .int .i64 0, .slice none 0, .int .i64 4, .int .i64 0, .str [], .int .i64 4, .slice (some (461, 0)) 2, .slice none 0, .slice none 0, .slice none 0]
abbrev tpO489 : AObj := .cells 58 2 [.int .i64 4, .str [], .str [], .int .i64 0, .int .i64 0, .int .i64 0, .str [], .int .i64 0, .slice none 0, .int .i64 4, .int .i64 0, .str [], .int .i64 17, .slice (some (226, 0)) 2, .slice none 0, .slice (some (486, 0)) 3, .slice none 0]
abbrev tpO539 : AObj := .cells 56 2 [.str [102], .slice (some (151, 0)) 2, .slice (some (158, 0)) 1, .slice (some (489, 0)) 1, .int .i64 1, .int .i64 5, .str [], .int .i64 0, .slice none 0]
def tpC (c : Int) : List AT := [.int .i64 7, .str [], .str [], .int .i64 c, .int .i64 0, .int .i64 0, .str [], .int .i64 0, .slice none 0, .int .i64 0, .int .i64 0, .str [], .int .i64 0, .slice none 0, .slice none 0, .slice none 0, .slice none 0]
theorem pf_at (H : Heap) : Sim Try.prog 12 pfe0.args H fun u G => u = .tup [.agg [.slice none 0, .slice (some (539 + H.n, 0)) 1], .agg [.int .i64 0, .int .i64 0]] ∧ AppH H tpX G :=
  (EntOk.any pfe0_ok rfl rfl (by simp [pfe0, plain, plain1, plainT]) H).mono fun u G ⟨h1, h2⟩ => ⟨h1, h2⟩
theorem pf_objs {H G : Heap} (h : AppH H tpX G) : G.get (539 + H.n) = some (.cells 56 2 [.str [102], .slice (some (151 + H.n, 0)) 2, .slice (some (158 + H.n, 0)) 1, .slice (some (489 + H.n, 0)) 1, .int .i64 1, .int .i64 5, .str [], .int .i64 0, .slice none 0]) ∧
    G.get (489 + H.n) = some (.cells 58 2 [.int .i64 4, .str [], .str [], .int .i64 0, .int .i64 0, .int .i64 0, .str [], .int .i64 0, .slice none 0, .int .i64 4, .int .i64 0, .str [], .int .i64 17, .slice (some (226 + H.n, 0)) 2, .slice none 0, .slice (some (486 + H.n, 0)) 3, .slice none 0]) ∧
    (∃ r, G.get (486 + H.n) = some (.cells 58 2 ([.int .i64 3, .str [], .str [], .int .i64 0, .int .i64 0, .int .i64 0, .str [], .int .i64 0, .slice none 0, .int .i64 4, .int .i64 0, .str [], .int .i64 15, .slice (some (315 + H.n, 0)) 2, .slice none 0, .slice (some (342 + H.n, 0)) 1, .slice none 0] ++ r))) ∧
    G.get (342 + H.n) = some (.cells 58 2 (tpC 0)) :=
  ⟨h.new 539 tpO539 (by kernel_rfl), h.new 489 tpO489 (by kernel_rfl), ⟨_, h.new 486 tpO486 (by kernel_rfl)⟩, h.new 342 tpO342 (by kernel_rfl)⟩
theorem pf_set {H G G' : Heap} (h : AppH H tpX G) (c : Int) (hk : Kp [342 + H.n] G G') (hg : G'.get (342 + H.n) = some (.cells 58 2 (tpC c))) : LPr G' (tpP c) [.slice none 0, .slice (some (539 + H.n, 0)) 1] := by
  have gk : ∀ i o, tpX.get i = some o → (shO H.n o).live = true → i ≠ 342 → G'.get (i + H.n) = some (shO H.n o) := fun i o hi hl hn => hk.g _ _ (h.new i o hi) hl (by simp only [List.mem_cons, List.not_mem_nil, or_false]; omega)
  have lv : ∀ s, LX G' (tpV s) [.int .i64 2, .int .i64 0, .str s, .int .i64 0, .slice none 0] := fun s => LX_iff.2 ⟨none, rfl, RowQ.nil⟩
  have ln : ∀ n, LX G' (.mk 1 n [] 0 []) [.int .i64 1, .int .i64 n, .str [], .int .i64 0, .slice none 0] := fun n => LX_iff.2 ⟨none, rfl, RowQ.nil⟩
  have lz : LX G' (.mk 0 0 [] 0 []) [.int .i64 0, .int .i64 0, .str [], .int .i64 0, .slice none 0] := LX_iff.2 ⟨none, rfl, RowQ.nil⟩
  have t1 : LM G' (tpS c) (tpC c) := LM_iff.2 ⟨_, _, none, none, none, rfl, lz, lz, RowQ.nil, RowQ.nil, RowQ.nil⟩
  have x1 : LX G' (.mk 4 0 [] 15 [tpV [105], tpV [109]]) [.int .i64 4, .int .i64 0, .str [], .int .i64 15, .slice (some (315 + H.n, 0)) 2] := LX_iff.2 ⟨some (315 + H.n, 0), rfl, rowX2 (T := 54) (k := 2) (c := [.int .i64 2, .int .i64 0, .str [105], .int .i64 0, .slice none 0]) (d := [.int .i64 2, .int .i64 0, .str [109], .int .i64 0, .slice none 0]) (gk 315 tpO315 (by kernel_rfl) rfl (by decide)) (lv _) (lv _)⟩
  have x2 : LX G' (.mk 4 0 [] 17 [tpV [105], tpV [110]]) [.int .i64 4, .int .i64 0, .str [], .int .i64 17, .slice (some (226 + H.n, 0)) 2] := LX_iff.2 ⟨some (226 + H.n, 0), rfl, rowX2 (T := 54) (k := 2) (c := [.int .i64 2, .int .i64 0, .str [105], .int .i64 0, .slice none 0]) (d := [.int .i64 2, .int .i64 0, .str [110], .int .i64 0, .slice none 0]) (gk 226 tpO226 (by kernel_rfl) rfl (by decide)) (lv _) (lv _)⟩
  have x3 : LX G' (.mk 4 0 [] 4 [tpV [105], .mk 1 1 [] 0 []]) [.int .i64 4, .int .i64 0, .str [], .int .i64 4, .slice (some (461 + H.n, 0)) 2] := LX_iff.2 ⟨some (461 + H.n, 0), rfl, rowX2 (T := 54) (k := 2) (c := [.int .i64 2, .int .i64 0, .str [105], .int .i64 0, .slice none 0]) (d := [.int .i64 1, .int .i64 1, .str [], .int .i64 0, .slice none 0]) (gk 461 tpO461 (by kernel_rfl) rfl (by decide)) (lv _) (ln _)⟩
  have s1 : LM G' (tpI c) [.int .i64 3, .str [], .str [], .int .i64 0, .int .i64 0, .int .i64 0, .str [], .int .i64 0, .slice none 0, .int .i64 4, .int .i64 0, .str [], .int .i64 15, .slice (some (315 + H.n, 0)) 2, .slice none 0, .slice (some (342 + H.n, 0)) 1, .slice none 0] :=
    LM_iff.2 ⟨_, _, none, some (342 + H.n, 0), none, rfl, lz, x1, RowQ.nil, RowQ.one hg rfl t1, RowQ.nil⟩
  have s2 : LM G' tpO [.int .i64 5, .str [], .str [], .int .i64 0, .int .i64 0, .int .i64 0, .str [], .int .i64 0, .slice none 0, .int .i64 2, .int .i64 0, .str [105], .int .i64 0, .slice none 0, .slice none 0, .slice none 0, .slice none 0] :=
    LM_iff.2 ⟨_, _, none, none, none, rfl, lz, lv _, RowQ.nil, RowQ.nil, RowQ.nil⟩
  have s3 : LM G' tpA [.int .i64 1, .str [105], .str [], .int .i64 0, .int .i64 0, .int .i64 0, .str [], .int .i64 0, .slice none 0, .int .i64 4, .int .i64 0, .str [], .int .i64 4, .slice (some (461 + H.n, 0)) 2, .slice none 0, .slice none 0, .slice none 0] :=
    LM_iff.2 ⟨_, _, none, none, none, rfl, lz, x3, RowQ.nil, RowQ.nil, RowQ.nil⟩
  have r3 : RowQ G' 17 (LM G') [tpI c, tpO, tpA] (some (486 + H.n, 0)) := ⟨fun e => (by cases e), fun i o e => .inr (by
    cases e
    exact ⟨_, _, _, gk 486 tpO486 (by kernel_rfl) rfl (by decide), by simp, s1, s2, s3, rfl⟩)⟩
  have w1 : LM G' (tpW c) [.int .i64 4, .str [], .str [], .int .i64 0, .int .i64 0, .int .i64 0, .str [], .int .i64 0, .slice none 0, .int .i64 4, .int .i64 0, .str [], .int .i64 17, .slice (some (226 + H.n, 0)) 2, .slice none 0, .slice (some (486 + H.n, 0)) 3, .slice none 0] :=
    LM_iff.2 ⟨_, _, none, some (486 + H.n, 0), none, rfl, lz, x2, RowQ.nil, r3, RowQ.nil⟩
  have f1 : LFn G' (tpF c) [.str [102], .slice (some (151 + H.n, 0)) 2, .slice (some (158 + H.n, 0)) 1, .slice (some (489 + H.n, 0)) 1, .int .i64 1, .int .i64 5, .str [], .int .i64 0, .slice none 0] :=
    ⟨some (151 + H.n, 0), some (158 + H.n, 0), some (489 + H.n, 0), _, rfl,
      ⟨fun e => (by cases e), fun i o e => .inr (by cases e; exact ⟨_, _, _, gk 151 tpO151 (by kernel_rfl) rfl (by decide), by simp [tpF], rfl, rfl, rfl⟩)⟩,
      ⟨fun e => (by cases e), fun i o e => .inr (by cases e; exact ⟨_, _, _, gk 158 tpO158 (by kernel_rfl) rfl (by decide), by simp [tpF], rfl, rfl⟩)⟩,
      RowQ.one (gk 489 tpO489 (by kernel_rfl) rfl (by decide)) rfl w1, ln 5⟩
  exact ⟨none, some (539 + H.n, 0), rfl, RowQ.nil, RowQ.one (gk 539 tpO539 (by kernel_rfl) rfl (by decide)) rfl f1⟩
end Go.Proofs.Ytnhobbjbgljpnaa
