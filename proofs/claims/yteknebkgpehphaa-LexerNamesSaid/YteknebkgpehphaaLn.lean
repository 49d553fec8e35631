/-
  THE WALK of fullinglaw2.LexerNames (printed by wip/tools/walk.py from wip/specs/lexN.py). Written in this session.
-/
import Derived.Test.YteknebkgpehphaaLb
namespace Go.Proofs.Yteknebkgpehphaa
open Go.Ea
set_option maxRecDepth 100000
set_option linter.unusedVariables false
set_option linter.unusedSimpArgs false

def nameP : List (List UInt8) := [[97], [90], [95], [48], [57]]
def nm (x : Int) : List UInt8 := nameP.getD (pk x 5) []
def nameS (l : List Int) (n : Nat) : List UInt8 := 110 :: (l.take n).flatMap nm
theorem nm_mem (x : Int) : nm x ∈ nameP := by
  have h : pk x 5 < nameP.length := pk_lt x 5 (by omega)
  unfold nm
  rw [List.getD_eq_getElem?_getD, List.getElem?_eq_getElem h]
  exact List.getElem_mem h
theorem nm_get (x : Int) : (nameP.map AT.str)[0 + pk x 5 * 1]? = some (.str (nm x)) := by
  have h : pk x 5 < nameP.length := pk_lt x 5 (by omega)
  rw [Nat.zero_add, Nat.mul_one, List.getElem?_map, List.getElem?_eq_getElem h]
  show some (AT.str (nameP[pk x 5])) = _
  unfold nm
  rw [List.getD_eq_getElem?_getD, List.getElem?_eq_getElem h]; rfl
theorem nm_len (x : Int) : (nm x).length ≤ 1 := (by decide : ∀ w ∈ nameP, w.length ≤ 1) _ (nm_mem x)
theorem nameS_len (l : List Int) (n : Nat) : (nameS l n).length ≤ n + 1 := by
  have h := flat_le nm_len (l.take n)
  have h2 : (l.take n).length ≤ n := by rw [List.length_take]; omega
  unfold nameS
  simp only [List.length_cons]; omega
theorem nameS_all (l : List Int) (n : Nat) : ∀ b ∈ nameS l n, (isL b || isD b) = true := by
  intro b hb
  rcases List.mem_cons.1 hb with rfl | hb
  · decide
  · obtain ⟨x, _, hx⟩ := List.mem_flatMap.1 hb
    exact (by decide : ∀ w ∈ nameP, ∀ b ∈ w, (isL b || isD b) = true) _ (nm_mem x) b hx
theorem nameS_snoc {l : List Int} {n : Nat} {x : Int} (h : l[n]? = some x) : nameS l (n + 1) = nameS l n ++ nm x := by
  unfold nameS; rw [List.take_add_one, h]; simp

theorem names_ok (l : List Int) (q : Option (Nat × Nat)) (H : Heap) (hl : RowR H (fun x => [AT.int .i64 x]) 1 l q) : Sim Try.prog 8 [at' (.slice q l.length)] H (fun u G => u = at' (.bool true) ∧ True) := by
  refine Sim.of_tri Try.func8 rfl ?_
  show Tri Try.prog 66 _ _ _ _
  refine Tri.seq ?_
  refine Tri.region mixed eqsOk (eqs := eqs) ?_
  refine sO rfl rfl (oV rfl ?_)
  show Tri Try.prog 66 _ _ _ _
  refine Tri.has (l := [(0, _), (2, _)]) ⟨rfl, rfl, trivial⟩ ?_
  refine Tri.seq ?_
  refine Tri.region mixed eqsOk (eqs := eqs) ?_
  refine sO rfl rfl (oV rfl ?_)
  show Tri Try.prog 66 _ _ _ _
  refine Tri.has (l := [(0, _), (2, _), (3, _)]) ⟨rfl, rfl, rfl, trivial⟩ ?_
  refine Tri.seq ?_
  refine Tri.seq ?_
  refine Tri.region mixed eqsOk (eqs := eqs) ?_
  refine sO rfl rfl (oV rfl ?_)
  show Tri Try.prog 66 _ _ _ _
  refine Tri.has (l := [(0, _), (2, _), (3, _), (4, _)]) ⟨rfl, rfl, rfl, rfl, trivial⟩ ?_
  refine Tri.block ?_
  refine Tri.loop (fun k lk1 H1 => ∃ n : Nat, k = 20 - n ∧ n ≤ 20 ∧ n ≤ l.length ∧ Has lk1 [(0, at' (.slice q l.length)), (3, at' (.str (nameS l n))), (4, at' (.int .i64 n))] ∧ Kp [] H H1) (20) (⟨0, rfl, by omega, by omega, ⟨rfl, rfl, rfl, trivial⟩, Kp.refl⟩) ?_
  rintro k lk1 H1 ⟨n, hk, hn, hnl, hh, hkp⟩
  refine Tri.has hh ?_
  refine Tri.seq ?_
  refine Tri.seq ?_
  refine Tri.region mixed eqsOk (eqs := eqs) ?_
  refine sO rfl rfl (oV rfl ?_)
  refine sO rfl rfl (oV rfl ?_)
  refine sO rfl rfl (oV rfl ?_)
  refine sO rfl rfl (oP rfl (fun h10 => ?_) (fun h10 => ?_))
  ·
    refine sO rfl rfl (oV rfl ?_)
    refine sO rfl rfl (oV rfl ?_)
    refine sO rfl rfl (oP rfl (fun h13 => ?_) (fun h13 => ?_))
    ·
      refine sO rfl rfl (oV rfl ?_)
      show Tri Try.prog 66 _ _ _ _
      refine Tri.has (l := [(0, _), (3, _), (4, _), (14, _)]) ⟨rfl, rfl, rfl, rfl, trivial⟩ ?_
      refine Tri.cond (t := true) rfl (fun _ => ?_) (fun h => Bool.noConfusion h)
      refine Tri.skip ?_
      show Tri Try.prog 66 _ _ _ _
      refine Tri.has (l := [(0, _), (3, _), (4, _), (14, _)]) ⟨rfl, rfl, rfl, rfl, trivial⟩ ?_
      refine Tri.seq ?_
      refine Tri.block ?_
      refine Tri.region mixed eqsOk (eqs := eqs) ?_
      refine sO rfl rfl (oV rfl ?_)
      refine sO rfl rfl (oV (H' := H1.push (.cells 9 2 (nameP.map AT.str))) rfl ?_)
      refine sO rfl rfl (oV rfl ?_)
      refine sO rfl rfl (oV rfl ?_)
      obtain ⟨x, hx⟩ : ∃ x, l[n]? = some x := ⟨_, List.getElem?_eq_getElem (by omega)⟩
      obtain ⟨id, o, T, kk, cs, rfl, hg, hle, hc⟩ := (hl.kp hkp).at (fun _ => rfl) hx
      refine sO rfl rfl (oIA (z := 1) rfl rfl rfl rfl (by omega) ?_)
      refine sO rfl rfl (oLoad (x := .at (.int .i64 x)) rfl (by repeat (first | assumption | exact Heap.push_new | exact Heap.set_newl (by first | (simp only [Heap.n_push, Heap.n_set]; omega) | exact Heap.get_lt (by assumption)) | refine Heap.push_old ?_ | refine Heap.set_old ?_ (by first | assumption | omega | (simp only [Heap.n_push, Heap.n_set]; omega)) (by first | (simp only [Heap.n_push, Heap.n_set]; omega) | exact Heap.get_lt (by assumption)))) (part_one hc rfl rfl rfl) ?_)
      refine sO rfl rfl (oF rfl (fnOk_of Try.func16 (by decide) rfl) (Pick_ok x 5 _ (by omega) (by omega)) ?_)
      refine sO rfl rfl (oIA (z := 1) rfl rfl rfl rfl (pk_lt x 5 (by omega)) ?_)
      refine sO rfl rfl (oLoad (x := .at (.str (nm x))) rfl (by repeat (first | assumption | exact Heap.push_new | exact Heap.set_newl (by first | (simp only [Heap.n_push, Heap.n_set]; omega) | exact Heap.get_lt (by assumption)) | refine Heap.push_old ?_ | refine Heap.set_old ?_ (by first | assumption | omega | (simp only [Heap.n_push, Heap.n_set]; omega)) (by first | (simp only [Heap.n_push, Heap.n_set]; omega) | exact Heap.get_lt (by assumption)))) (part_at rfl rfl rfl (nm_get x)) ?_)
      refine sO rfl rfl (oCat rfl rfl (by have := nameS_len l n; have := nm_len x; omega) ?_)
      refine sO rfl rfl (oV rfl ?_)
      show Tri Try.prog 66 _ _ _ _
      refine Tri.has (l := [(0, _), (3, _), (4, _), (14, _)]) ⟨rfl, rfl, rfl, rfl, trivial⟩ ?_
      refine Tri.region mixed eqsOk (eqs := eqs) ?_
      refine sO rfl rfl (oV rfl ?_)
      refine sO rfl rfl (oAdd (m := 1) rfl (by omega) ?_)
      refine sO rfl rfl (oV rfl ?_)
      refine ⟨20 - (n + 1), by omega, n + 1, rfl, by omega, by omega, ⟨rfl, ?_, rfl, trivial⟩, (by repeat (first | assumption | exact Kp.refl | refine Kp.push ?_ | refine Kp.set ?_ (by first | (simp only [Heap.n_push, Heap.n_set]; omega) | exact Heap.get_lt (by assumption)) (.inr (by first | omega | (simp only [Heap.n_push, Heap.n_set]; omega)))))⟩
      rw [nameS_snoc hx]; rfl
    ·
      refine sO rfl rfl (oV rfl ?_)
      show Tri Try.prog 66 _ _ _ _
      refine Tri.has (l := [(0, _), (3, _), (4, _), (14, _)]) ⟨rfl, rfl, rfl, rfl, trivial⟩ ?_
      refine Tri.cond (t := false) rfl (fun h => Bool.noConfusion h) (fun _ => ?_)
      refine Tri.exit ?_
      show Tri Try.prog 66 _ _ _ _
      refine Tri.has (l := [(0, _), (3, _), (4, _), (14, _)]) ⟨rfl, rfl, rfl, rfl, trivial⟩ ?_
      refine Tri.seq ?_
      refine Tri.region mixed eqsOk (eqs := eqs) ?_
      refine sO rfl rfl (oV rfl ?_)
      refine sO rfl rfl (oCat rfl rfl (by have := nameS_len l n; (show 1 + (nameS l n).length ≤ _); omega) ?_)
      refine sO rfl rfl (oC rfl (fnOk_of Try.func9 (by decide) rfl) (Scan_ok _ _) ?_)
      rintro u G ⟨a, rfl, hr, hk2⟩
      have hsc : scanS ([43] ++ nameS l n) = if 16 < (nameS l n).length then ([], 6, 1) else ([⟨3, [43], 0⟩, ⟨1, nameS l n, 1⟩], 0, 0) := scan_name (s := nameS l n) (by have := nameS_len l n; omega) (nameS_all l n) rfl
      obtain ⟨p, rfl, hr2⟩ := hr.r tokC_len
      refine sO rfl rfl (oV rfl ?_)
      refine sO rfl rfl (oV rfl ?_)
      refine sO rfl rfl (oV rfl ?_)
      refine sO rfl rfl (oAlloc (cs := [.int .i64 0, .int .i64 0]) rfl rfl ?_)
      refine sO rfl rfl (oV rfl ?_)
      refine sO rfl rfl (oStore (n := 2) (cs' := [_, _]) rfl rfl rfl (by repeat (first | assumption | exact Heap.push_new | exact Heap.set_newl (by first | (simp only [Heap.n_push, Heap.n_set]; omega) | exact Heap.get_lt (by assumption)) | refine Heap.push_old ?_ | refine Heap.set_old ?_ (by first | assumption | omega | (simp only [Heap.n_push, Heap.n_set]; omega)) (by first | (simp only [Heap.n_push, Heap.n_set]; omega) | exact Heap.get_lt (by assumption)))) rfl (Nat.le_of_ble_eq_true rfl) rfl rfl ?_)
      show Tri Try.prog 66 _ _ _ _
      refine Tri.has (l := [(0, _), (3, _), (4, _), (5, _), (6, _), (14, _)]) ⟨rfl, rfl, rfl, rfl, rfl, rfl, trivial⟩ ?_
      refine Tri.seq ?_
      refine Tri.seq ?_
      refine Tri.region mixed eqsOk (eqs := eqs) ?_
      refine sO rfl rfl (oV rfl ?_)
      refine sO rfl rfl (oV rfl ?_)
      refine sO rfl rfl (oP rfl (fun h35 => ?_) (fun h35 => ?_))
      ·
        show Tri Try.prog 66 _ _ _ _
        refine Tri.has (l := [(0, _), (3, _), (4, _), (5, _), (6, _), (14, _), (35, _)]) ⟨rfl, rfl, rfl, rfl, rfl, rfl, rfl, trivial⟩ ?_
        refine Tri.cond (t := true) rfl (fun _ => ?_) (fun h => Bool.noConfusion h)
        refine Tri.seq ?_
        refine Tri.region mixed eqsOk (eqs := eqs) ?_
        refine sO rfl rfl (oLoad (x := .agg [_, _]) rfl (by repeat (first | assumption | exact Heap.push_new | exact Heap.set_newl (by first | (simp only [Heap.n_push, Heap.n_set]; omega) | exact Heap.get_lt (by assumption)) | refine Heap.push_old ?_ | refine Heap.set_old ?_ (by first | assumption | omega | (simp only [Heap.n_push, Heap.n_set]; omega)) (by first | (simp only [Heap.n_push, Heap.n_set]; omega) | exact Heap.get_lt (by assumption)))) rfl ?_)
        refine sO rfl rfl (oW (.one (.agg [_, _])) rfl rfl ?_)
        refine sO rfl rfl (oB rfl (fun h38 => ?_) (fun h38 => by rw [hsc, if_pos (by omega)] at h38; cases h38))
        refine sO rfl rfl (oV rfl ?_)
        refine sO rfl rfl (oV rfl ?_)
        refine sO rfl rfl (oV rfl ?_)
        refine sO rfl rfl (oE rfl (fun h42 => ?_) (fun h42 => (h42 (by rw [hsc, if_pos (by omega)]; rfl)).elim))
        refine sO rfl rfl (oV rfl ?_)
        refine sO rfl rfl (oV rfl ?_)
        refine sO rfl rfl (oF rfl (fnOk_of Try.func3 (by decide) rfl) (examples_ok _) ?_)
        refine sO rfl rfl (oV rfl ?_)
        refine sO rfl rfl (oV rfl ?_)
        show Tri Try.prog 66 _ _ _ _
        refine Tri.has (l := [(0, _), (2, _), (3, _), (4, _), (5, _), (6, _), (14, _), (35, _)]) ⟨rfl, rfl, rfl, rfl, rfl, rfl, rfl, rfl, trivial⟩ ?_
        refine Tri.ret ?_
        refine ⟨trivial, _, rfl, ?_⟩
        exact ⟨rfl, trivial⟩
      ·
        show Tri Try.prog 66 _ _ _ _
        refine Tri.has (l := [(0, _), (3, _), (4, _), (5, _), (6, _), (14, _), (35, _)]) ⟨rfl, rfl, rfl, rfl, rfl, rfl, rfl, trivial⟩ ?_
        refine Tri.cond (t := false) rfl (fun h => Bool.noConfusion h) (fun _ => ?_)
        refine Tri.skip ?_
        show Tri Try.prog 66 _ _ _ _
        refine Tri.has (l := [(0, _), (3, _), (4, _), (5, _), (6, _), (14, _), (35, _)]) ⟨rfl, rfl, rfl, rfl, rfl, rfl, rfl, trivial⟩ ?_
        refine Tri.seq ?_
        refine Tri.region mixed eqsOk (eqs := eqs) ?_
        refine sO rfl rfl (oLoad (x := .agg [_, _]) rfl (by repeat (first | assumption | exact Heap.push_new | exact Heap.set_newl (by first | (simp only [Heap.n_push, Heap.n_set]; omega) | exact Heap.get_lt (by assumption)) | refine Heap.push_old ?_ | refine Heap.set_old ?_ (by first | assumption | omega | (simp only [Heap.n_push, Heap.n_set]; omega)) (by first | (simp only [Heap.n_push, Heap.n_set]; omega) | exact Heap.get_lt (by assumption)))) rfl ?_)
        refine sO rfl rfl (oW (.one (.agg [.int .i64 0, .int .i64 0])) rfl rfl ?_)
        refine sO rfl rfl (oB rfl (fun h49 => ?_) (fun h49 => by rw [hsc, if_neg (by omega)] at h49; cases h49))
        refine sO rfl rfl (oV rfl ?_)
        refine sO rfl rfl (oV rfl ?_)
        refine sO rfl rfl (oV rfl ?_)
        refine sO rfl rfl (oE rfl (fun h53 => ?_) (fun h53 => (h53 (by rw [hsc, if_neg (by omega)]; rfl)).elim))
        refine sO rfl rfl (oV rfl ?_)
        refine sO rfl rfl (oV rfl ?_)
        refine sO rfl rfl (oV rfl ?_)
        have e1 : (scanS ([43] ++ nameS l n)).1[1]? = some ⟨1, nameS l n, 1⟩ := by rw [hsc, if_neg (by omega)]; rfl
        obtain ⟨id, o, T, kk, cs, rfl, hg, hle, hc⟩ := hr2.at tokC_len e1
        have hlt := Heap.get_lt hg
        have hln : (scanS ([43] ++ nameS l n)).1.length = 2 := by rw [hsc, if_neg (by omega)]; rfl
        refine sO rfl rfl (oIA (z := 3) (i := 1) rfl rfl rfl rfl (by omega) ?_)
        refine sO rfl rfl (oLoad (x := .agg (tokC ⟨1, nameS l n, 1⟩)) rfl (by repeat (first | assumption | exact Heap.push_new | exact Heap.set_newl (by first | (simp only [Heap.n_push, Heap.n_set]; omega) | exact Heap.get_lt (by assumption)) | refine Heap.push_old ?_ | refine Heap.set_old ?_ (by first | assumption | omega | (simp only [Heap.n_push, Heap.n_set]; omega)) (by first | (simp only [Heap.n_push, Heap.n_set]; omega) | exact Heap.get_lt (by assumption)))) (part_all hc hle rfl rfl rfl) ?_)
        refine sO rfl rfl (oV rfl ?_)
        refine sO rfl rfl (oW (.one (.agg [_, _, _])) rfl rfl ?_)
        refine sO rfl rfl (oB rfl (fun h61 => ?_) (fun h61 => by simp [eqS_eq] at h61))
        refine sO rfl rfl (oV rfl ?_)
        refine sO rfl rfl (oV rfl ?_)
        refine sO rfl rfl (oF rfl (fnOk_of Try.func3 (by decide) rfl) (examples_ok _) ?_)
        refine sO rfl rfl (oV rfl ?_)
        refine sO rfl rfl (oV rfl ?_)
        show Tri Try.prog 66 _ _ _ _
        refine Tri.has (l := [(0, _), (2, _), (3, _), (4, _), (5, _), (6, _), (14, _), (35, _)]) ⟨rfl, rfl, rfl, rfl, rfl, rfl, rfl, rfl, trivial⟩ ?_
        refine Tri.ret ?_
        refine ⟨trivial, _, rfl, ?_⟩
        exact ⟨rfl, trivial⟩
  ·
    refine sO rfl rfl (oV rfl ?_)
    refine sN rfl rfl ?_
    refine sN rfl rfl ?_
    refine sO rfl rfl (oV rfl ?_)
    show Tri Try.prog 66 _ _ _ _
    refine Tri.has (l := [(0, _), (3, _), (4, _), (14, _)]) ⟨rfl, rfl, rfl, rfl, trivial⟩ ?_
    refine Tri.cond (t := false) rfl (fun h => Bool.noConfusion h) (fun _ => ?_)
    refine Tri.exit ?_
    show Tri Try.prog 66 _ _ _ _
    refine Tri.has (l := [(0, _), (3, _), (4, _), (14, _)]) ⟨rfl, rfl, rfl, rfl, trivial⟩ ?_
    refine Tri.seq ?_
    refine Tri.region mixed eqsOk (eqs := eqs) ?_
    refine sO rfl rfl (oV rfl ?_)
    refine sO rfl rfl (oCat rfl rfl (by have := nameS_len l n; (show 1 + (nameS l n).length ≤ _); omega) ?_)
    refine sO rfl rfl (oC rfl (fnOk_of Try.func9 (by decide) rfl) (Scan_ok _ _) ?_)
    rintro u G ⟨a, rfl, hr, hk2⟩
    have hsc : scanS ([43] ++ nameS l n) = if 16 < (nameS l n).length then ([], 6, 1) else ([⟨3, [43], 0⟩, ⟨1, nameS l n, 1⟩], 0, 0) := scan_name (s := nameS l n) (by have := nameS_len l n; omega) (nameS_all l n) rfl
    obtain ⟨p, rfl, hr2⟩ := hr.r tokC_len
    refine sO rfl rfl (oV rfl ?_)
    refine sO rfl rfl (oV rfl ?_)
    refine sO rfl rfl (oV rfl ?_)
    refine sO rfl rfl (oAlloc (cs := [.int .i64 0, .int .i64 0]) rfl rfl ?_)
    refine sO rfl rfl (oV rfl ?_)
    refine sO rfl rfl (oStore (n := 2) (cs' := [_, _]) rfl rfl rfl (by repeat (first | assumption | exact Heap.push_new | exact Heap.set_newl (by first | (simp only [Heap.n_push, Heap.n_set]; omega) | exact Heap.get_lt (by assumption)) | refine Heap.push_old ?_ | refine Heap.set_old ?_ (by first | assumption | omega | (simp only [Heap.n_push, Heap.n_set]; omega)) (by first | (simp only [Heap.n_push, Heap.n_set]; omega) | exact Heap.get_lt (by assumption)))) rfl (Nat.le_of_ble_eq_true rfl) rfl rfl ?_)
    show Tri Try.prog 66 _ _ _ _
    refine Tri.has (l := [(0, _), (3, _), (4, _), (5, _), (6, _), (14, _)]) ⟨rfl, rfl, rfl, rfl, rfl, rfl, trivial⟩ ?_
    refine Tri.seq ?_
    refine Tri.seq ?_
    refine Tri.region mixed eqsOk (eqs := eqs) ?_
    refine sO rfl rfl (oV rfl ?_)
    refine sO rfl rfl (oV rfl ?_)
    refine sO rfl rfl (oP rfl (fun h35 => ?_) (fun h35 => ?_))
    ·
      show Tri Try.prog 66 _ _ _ _
      refine Tri.has (l := [(0, _), (3, _), (4, _), (5, _), (6, _), (14, _), (35, _)]) ⟨rfl, rfl, rfl, rfl, rfl, rfl, rfl, trivial⟩ ?_
      refine Tri.cond (t := true) rfl (fun _ => ?_) (fun h => Bool.noConfusion h)
      refine Tri.seq ?_
      refine Tri.region mixed eqsOk (eqs := eqs) ?_
      refine sO rfl rfl (oLoad (x := .agg [_, _]) rfl (by repeat (first | assumption | exact Heap.push_new | exact Heap.set_newl (by first | (simp only [Heap.n_push, Heap.n_set]; omega) | exact Heap.get_lt (by assumption)) | refine Heap.push_old ?_ | refine Heap.set_old ?_ (by first | assumption | omega | (simp only [Heap.n_push, Heap.n_set]; omega)) (by first | (simp only [Heap.n_push, Heap.n_set]; omega) | exact Heap.get_lt (by assumption)))) rfl ?_)
      refine sO rfl rfl (oW (.one (.agg [_, _])) rfl rfl ?_)
      refine sO rfl rfl (oB rfl (fun h38 => ?_) (fun h38 => by rw [hsc, if_pos (by omega)] at h38; cases h38))
      refine sO rfl rfl (oV rfl ?_)
      refine sO rfl rfl (oV rfl ?_)
      refine sO rfl rfl (oV rfl ?_)
      refine sO rfl rfl (oE rfl (fun h42 => ?_) (fun h42 => (h42 (by rw [hsc, if_pos (by omega)]; rfl)).elim))
      refine sO rfl rfl (oV rfl ?_)
      refine sO rfl rfl (oV rfl ?_)
      refine sO rfl rfl (oF rfl (fnOk_of Try.func3 (by decide) rfl) (examples_ok _) ?_)
      refine sO rfl rfl (oV rfl ?_)
      refine sO rfl rfl (oV rfl ?_)
      show Tri Try.prog 66 _ _ _ _
      refine Tri.has (l := [(0, _), (2, _), (3, _), (4, _), (5, _), (6, _), (14, _), (35, _)]) ⟨rfl, rfl, rfl, rfl, rfl, rfl, rfl, rfl, trivial⟩ ?_
      refine Tri.ret ?_
      refine ⟨trivial, _, rfl, ?_⟩
      exact ⟨rfl, trivial⟩
    ·
      show Tri Try.prog 66 _ _ _ _
      refine Tri.has (l := [(0, _), (3, _), (4, _), (5, _), (6, _), (14, _), (35, _)]) ⟨rfl, rfl, rfl, rfl, rfl, rfl, rfl, trivial⟩ ?_
      refine Tri.cond (t := false) rfl (fun h => Bool.noConfusion h) (fun _ => ?_)
      refine Tri.skip ?_
      show Tri Try.prog 66 _ _ _ _
      refine Tri.has (l := [(0, _), (3, _), (4, _), (5, _), (6, _), (14, _), (35, _)]) ⟨rfl, rfl, rfl, rfl, rfl, rfl, rfl, trivial⟩ ?_
      refine Tri.seq ?_
      refine Tri.region mixed eqsOk (eqs := eqs) ?_
      refine sO rfl rfl (oLoad (x := .agg [_, _]) rfl (by repeat (first | assumption | exact Heap.push_new | exact Heap.set_newl (by first | (simp only [Heap.n_push, Heap.n_set]; omega) | exact Heap.get_lt (by assumption)) | refine Heap.push_old ?_ | refine Heap.set_old ?_ (by first | assumption | omega | (simp only [Heap.n_push, Heap.n_set]; omega)) (by first | (simp only [Heap.n_push, Heap.n_set]; omega) | exact Heap.get_lt (by assumption)))) rfl ?_)
      refine sO rfl rfl (oW (.one (.agg [.int .i64 0, .int .i64 0])) rfl rfl ?_)
      refine sO rfl rfl (oB rfl (fun h49 => ?_) (fun h49 => by rw [hsc, if_neg (by omega)] at h49; cases h49))
      refine sO rfl rfl (oV rfl ?_)
      refine sO rfl rfl (oV rfl ?_)
      refine sO rfl rfl (oV rfl ?_)
      refine sO rfl rfl (oE rfl (fun h53 => ?_) (fun h53 => (h53 (by rw [hsc, if_neg (by omega)]; rfl)).elim))
      refine sO rfl rfl (oV rfl ?_)
      refine sO rfl rfl (oV rfl ?_)
      refine sO rfl rfl (oV rfl ?_)
      have e1 : (scanS ([43] ++ nameS l n)).1[1]? = some ⟨1, nameS l n, 1⟩ := by rw [hsc, if_neg (by omega)]; rfl
      obtain ⟨id, o, T, kk, cs, rfl, hg, hle, hc⟩ := hr2.at tokC_len e1
      have hlt := Heap.get_lt hg
      have hln : (scanS ([43] ++ nameS l n)).1.length = 2 := by rw [hsc, if_neg (by omega)]; rfl
      refine sO rfl rfl (oIA (z := 3) (i := 1) rfl rfl rfl rfl (by omega) ?_)
      refine sO rfl rfl (oLoad (x := .agg (tokC ⟨1, nameS l n, 1⟩)) rfl (by repeat (first | assumption | exact Heap.push_new | exact Heap.set_newl (by first | (simp only [Heap.n_push, Heap.n_set]; omega) | exact Heap.get_lt (by assumption)) | refine Heap.push_old ?_ | refine Heap.set_old ?_ (by first | assumption | omega | (simp only [Heap.n_push, Heap.n_set]; omega)) (by first | (simp only [Heap.n_push, Heap.n_set]; omega) | exact Heap.get_lt (by assumption)))) (part_all hc hle rfl rfl rfl) ?_)
      refine sO rfl rfl (oV rfl ?_)
      refine sO rfl rfl (oW (.one (.agg [_, _, _])) rfl rfl ?_)
      refine sO rfl rfl (oB rfl (fun h61 => ?_) (fun h61 => by simp [eqS_eq] at h61))
      refine sO rfl rfl (oV rfl ?_)
      refine sO rfl rfl (oV rfl ?_)
      refine sO rfl rfl (oF rfl (fnOk_of Try.func3 (by decide) rfl) (examples_ok _) ?_)
      refine sO rfl rfl (oV rfl ?_)
      refine sO rfl rfl (oV rfl ?_)
      show Tri Try.prog 66 _ _ _ _
      refine Tri.has (l := [(0, _), (2, _), (3, _), (4, _), (5, _), (6, _), (14, _), (35, _)]) ⟨rfl, rfl, rfl, rfl, rfl, rfl, rfl, rfl, trivial⟩ ?_
      refine Tri.ret ?_
      refine ⟨trivial, _, rfl, ?_⟩
      exact ⟨rfl, trivial⟩
end Go.Proofs.Yteknebkgpehphaa
