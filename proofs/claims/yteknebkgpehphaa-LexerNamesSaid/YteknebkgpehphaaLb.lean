/-
  CONTRACTS of what the laws of chapter 2 call (printed by wip/tools/walk.py from wip/specs/lexB.py). Written in this session.
-/
import Derived.Test.YteknebkgpehphaaEf1
import Derived.Test.YteknebkgpehphaaLp
namespace Go.Proofs.Yteknebkgpehphaa
open Go.Ea
set_option maxRecDepth 100000
set_option linter.unusedVariables false
set_option linter.unusedSimpArgs false

theorem examples_value : okA (runA Try.prog eqs (plsOf tab out) 100 3 [] Heap.empty) = true := by decide +kernel
theorem examples_ok (H : Heap) : Sim Try.prog 3 [] H fun u G => u = at' (.bool true) ∧ G = H := by
  obtain ⟨X, h⟩ := okA_spec examples_value
  exact Sim.of_run (run_sound 100) h (by simp) rfl H
def pk (n : Int) (m : Nat) : Nat := (n % (m : Int)).toNat
theorem pk_lt (n : Int) (m : Nat) (hm : 0 < m) : pk n m < m := by
  have h1 := Int.emod_nonneg n (b := (m : Int)) (by omega)
  have h2 := Int.emod_lt_of_pos n (b := (m : Int)) (by omega)
  unfold pk; omega
theorem pk_tmod (n : Int) (m : Nat) (hm : 0 < m) : -(m : Int) < n.tmod m ∧ n.tmod m < m ∧ (pk n m : Int) = if n.tmod m < 0 then n.tmod m + m else n.tmod m := by
  have h1 := Int.tmod_lt_of_pos n (b := (m : Int)) (by omega)
  have h2 := Int.lt_tmod_of_pos n (b := (m : Int)) (by omega)
  have h3 := Int.mul_tdiv_add_tmod n m
  have h4 : n % (m : Int) = (n.tmod m) % m := by
    conv => lhs; rw [← h3]
    rw [Int.mul_add_emod_self_left]
  have h5 := Int.emod_nonneg n (b := (m : Int)) (by omega)
  refine ⟨h2, h1, ?_⟩
  have h6 : (pk n m : Int) = n % m := by unfold pk; omega
  rw [h6, h4]
  split
  · rw [← Int.add_emod_right, Int.emod_eq_of_lt (by omega) (by omega)]
  · rw [Int.emod_eq_of_lt (by omega) (by omega)]
def allP : List (List UInt8) := [[97], [98, 95, 49], [32], [9], [10], [35], [62], [62, 62], [60], [61], [33], [43], [45], [48], [55], [48, 55], [57, 50, 50, 51, 51, 55, 50, 48, 51, 54, 56, 53, 52, 55, 55, 53, 56, 48, 56], [57, 50, 50, 51, 51, 55, 50, 48, 51, 54, 56, 53, 52, 55, 55, 53, 56, 48, 57], [48, 120], [38], [40], [91], [59], [0], [195, 169], [97, 98, 99, 100, 101, 102, 103, 104, 105, 106, 107, 108, 109, 110, 111, 112], [97, 98, 99, 100, 101, 102, 103, 104, 105, 106, 107, 108, 109, 110, 111, 112, 113], [37], [36], [13]]
def pc (x : Int) : List UInt8 := allP.getD (pk x 30) []
def pcs (l : List Int) : List UInt8 := (l.take 30).flatMap pc
theorem pc_get (x : Int) : (allP.map AT.str)[0 + pk x 30 * 1]? = some (.str (pc x)) := by
  have h : pk x 30 < allP.length := pk_lt x 30 (by omega)
  rw [Nat.zero_add, Nat.mul_one, List.getElem?_map, List.getElem?_eq_getElem h]
  show some (AT.str (allP[pk x 30])) = _
  unfold pc
  rw [List.getD_eq_getElem?_getD, List.getElem?_eq_getElem h]; rfl
theorem pc_len (x : Int) : (pc x).length ≤ 19 := by
  have h : pk x 30 < allP.length := pk_lt x 30 (by omega)
  have key : ∀ w ∈ allP, w.length ≤ 19 := by decide
  unfold pc
  rw [List.getD_eq_getElem?_getD, List.getElem?_eq_getElem h]
  exact key _ (List.getElem_mem h)
theorem flat_le {A : Type} {f : A → List UInt8} {m : Nat} (hf : ∀ x, (f x).length ≤ m) : ∀ l : List A, (l.flatMap f).length ≤ l.length * m
  | [] => by simp
  | a :: l => by
    have h1 := hf a; have h2 := flat_le hf l
    simp only [List.flatMap_cons, List.length_append, List.length_cons, Nat.succ_mul]; omega
theorem pcs_len (l : List Int) : (pcs l).length ≤ 570 := by
  have h := flat_le pc_len (l.take 30)
  have h2 : (l.take 30).length ≤ 30 := by rw [List.length_take]; omega
  have := Nat.mul_le_mul_right 19 h2
  unfold pcs; omega
theorem pcs_snoc {l : List Int} {n : Nat} {x : Int} (h : l[n]? = some x) (hn : n < 30) : pcs (l.take (n + 1)) = pcs (l.take n) ++ pc x := by
  unfold pcs
  rw [List.take_take, List.take_take, Nat.min_eq_right (by omega), Nat.min_eq_right (by omega), List.take_add_one, h]
  simp

theorem Pick_ok (n : Int) (m : Nat) (H : Heap) (hm : 0 < m) (hm2 : m < 4611686018427387904) : Sim Try.prog 16 [at' (.int .i64 n), at' (.int .i64 m)] H (fun u G => u = at' (.int .i64 (pk n m)) ∧ G = H) := by
  obtain ⟨p1, p2, p3⟩ := pk_tmod n m hm
  refine Sim.of_tri Try.func16 rfl ?_
  show Tri Try.prog 14 _ _ _ _
  refine Tri.seq ?_
  refine Tri.region mixed eqsOk (eqs := eqs) ?_
  refine sO rfl rfl (oV rfl ?_)
  show Tri Try.prog 14 _ _ _ _
  refine Tri.has (l := [(0, _), (1, _), (4, _)]) ⟨rfl, rfl, rfl, trivial⟩ ?_
  refine Tri.seq ?_
  refine Tri.region mixed eqsOk (eqs := eqs) ?_
  refine sO rfl rfl (oV rfl ?_)
  refine sO rfl rfl (oV rfl ?_)
  refine sO rfl rfl (oRem rfl rfl (by omega) ?_)
  refine sO rfl rfl (oV rfl ?_)
  show Tri Try.prog 14 _ _ _ _
  refine Tri.has (l := [(0, _), (1, _), (4, _)]) ⟨rfl, rfl, rfl, trivial⟩ ?_
  refine Tri.seq ?_
  refine Tri.seq ?_
  refine Tri.region mixed eqsOk (eqs := eqs) ?_
  refine sO rfl rfl (oV rfl ?_)
  refine sO rfl rfl (oP rfl (fun h9 => ?_) (fun h9 => ?_))
  ·
    show Tri Try.prog 14 _ _ _ _
    refine Tri.has (l := [(0, _), (1, _), (4, _), (9, _)]) ⟨rfl, rfl, rfl, rfl, trivial⟩ ?_
    refine Tri.cond (t := true) rfl (fun _ => ?_) (fun h => Bool.noConfusion h)
    refine Tri.region mixed eqsOk (eqs := eqs) ?_
    refine sO rfl rfl (oV rfl ?_)
    refine sO rfl rfl (oV rfl ?_)
    refine sO rfl rfl (oArith rfl (by omega) (by omega) ?_)
    refine sO rfl rfl (oV rfl ?_)
    show Tri Try.prog 14 _ _ _ _
    refine Tri.has (l := [(0, _), (1, _), (4, _), (9, _)]) ⟨rfl, rfl, rfl, rfl, trivial⟩ ?_
    refine Tri.seq ?_
    refine Tri.region mixed eqsOk (eqs := eqs) ?_
    refine sO rfl rfl (oV rfl ?_)
    refine sO rfl rfl (oV rfl ?_)
    show Tri Try.prog 14 _ _ _ _
    refine Tri.has (l := [(0, _), (1, _), (4, _), (9, _)]) ⟨rfl, rfl, rfl, rfl, trivial⟩ ?_
    refine Tri.ret ?_
    refine ⟨trivial, _, rfl, ?_⟩
    first
      | (rw [if_pos h9] at p3; rw [p3]; exact ⟨rfl, rfl⟩)
      | (rw [if_neg h9] at p3; rw [p3]; exact ⟨rfl, rfl⟩)
  ·
    show Tri Try.prog 14 _ _ _ _
    refine Tri.has (l := [(0, _), (1, _), (4, _), (9, _)]) ⟨rfl, rfl, rfl, rfl, trivial⟩ ?_
    refine Tri.cond (t := false) rfl (fun h => Bool.noConfusion h) (fun _ => ?_)
    refine Tri.skip ?_
    show Tri Try.prog 14 _ _ _ _
    refine Tri.has (l := [(0, _), (1, _), (4, _), (9, _)]) ⟨rfl, rfl, rfl, rfl, trivial⟩ ?_
    refine Tri.seq ?_
    refine Tri.region mixed eqsOk (eqs := eqs) ?_
    refine sO rfl rfl (oV rfl ?_)
    refine sO rfl rfl (oV rfl ?_)
    show Tri Try.prog 14 _ _ _ _
    refine Tri.has (l := [(0, _), (1, _), (4, _), (9, _)]) ⟨rfl, rfl, rfl, rfl, trivial⟩ ?_
    refine Tri.ret ?_
    refine ⟨trivial, _, rfl, ?_⟩
    first
      | (rw [if_pos h9] at p3; rw [p3]; exact ⟨rfl, rfl⟩)
      | (rw [if_neg h9] at p3; rw [p3]; exact ⟨rfl, rfl⟩)
theorem pieces_ok (l : List Int) (q : Option (Nat × Nat)) (H : Heap) (hl : RowR H (fun x => [AT.int .i64 x]) 1 l q) : Sim Try.prog 11 [at' (.slice q l.length)] H (fun u G => u = at' (.str (pcs l)) ∧ G = H) := by
  refine Sim.trim ?_
  refine Sim.of_tri Try.func11 rfl ?_
  show Tri Try.prog 30 _ _ _ _
  refine Tri.seq ?_
  refine Tri.region mixed eqsOk (eqs := eqs) ?_
  refine sO rfl rfl (oV rfl ?_)
  show Tri Try.prog 30 _ _ _ _
  refine Tri.has (l := [(0, _), (2, _)]) ⟨rfl, rfl, trivial⟩ ?_
  refine Tri.seq ?_
  refine Tri.region mixed eqsOk (eqs := eqs) ?_
  refine sO rfl rfl (oV (H' := H.push (.cells 9 2 (allP.map AT.str))) rfl ?_)
  refine sO rfl rfl (oV rfl ?_)
  show Tri Try.prog 30 _ _ _ _
  refine Tri.has (l := [(0, _), (2, _), (3, _)]) ⟨rfl, rfl, rfl, trivial⟩ ?_
  refine Tri.seq ?_
  refine Tri.region mixed eqsOk (eqs := eqs) ?_
  refine sO rfl rfl (oV rfl ?_)
  show Tri Try.prog 30 _ _ _ _
  refine Tri.has (l := [(0, _), (2, _), (3, _), (4, _)]) ⟨rfl, rfl, rfl, rfl, trivial⟩ ?_
  refine Tri.seq ?_
  refine Tri.seq ?_
  refine Tri.region mixed eqsOk (eqs := eqs) ?_
  refine sO rfl rfl (oV rfl ?_)
  show Tri Try.prog 30 _ _ _ _
  refine Tri.has (l := [(0, _), (2, _), (3, _), (4, _), (5, _)]) ⟨rfl, rfl, rfl, rfl, rfl, trivial⟩ ?_
  refine Tri.block ?_
  refine Tri.loop (fun k lk1 H1 => ∃ n : Nat, k = 30 - n ∧ n ≤ 30 ∧ n ≤ l.length ∧ Has lk1 [(0, at' (.slice q l.length)), (3, at' (.slice (some (H.n, 0)) 30)), (4, at' (.str (pcs (l.take n)))), (5, at' (.int .i64 n))] ∧ H.push (.cells 9 2 (allP.map AT.str)) = H1) (30) (⟨0, rfl, by omega, by omega, ⟨rfl, rfl, rfl, rfl, trivial⟩, rfl⟩) ?_
  rintro k lk1 H1 ⟨n, hk, hn, hnl, hh, rfl⟩
  refine Tri.has hh ?_
  refine Tri.seq ?_
  refine Tri.seq ?_
  refine Tri.region mixed eqsOk (eqs := eqs) ?_
  refine sO rfl rfl (oV rfl ?_)
  refine sO rfl rfl (oV rfl ?_)
  refine sO rfl rfl (oV rfl ?_)
  refine sO rfl rfl (oP rfl (fun h10 => ?_) (fun h10 => ?_))
  ·
    refine sO rfl rfl (oV rfl ?_)
    refine sO rfl rfl (oV rfl ?_)
    refine sO rfl rfl (oP rfl (fun h13 => ?_) (fun h13 => ?_))
    ·
      refine sO rfl rfl (oV rfl ?_)
      show Tri Try.prog 30 _ _ _ _
      refine Tri.has (l := [(0, _), (3, _), (4, _), (5, _), (14, _)]) ⟨rfl, rfl, rfl, rfl, rfl, trivial⟩ ?_
      refine Tri.cond (t := true) rfl (fun _ => ?_) (fun h => Bool.noConfusion h)
      refine Tri.skip ?_
      show Tri Try.prog 30 _ _ _ _
      refine Tri.has (l := [(0, _), (3, _), (4, _), (5, _), (14, _)]) ⟨rfl, rfl, rfl, rfl, rfl, trivial⟩ ?_
      refine Tri.seq ?_
      refine Tri.block ?_
      refine Tri.region mixed eqsOk (eqs := eqs) ?_
      refine sO rfl rfl (oV rfl ?_)
      refine sO rfl rfl (oV rfl ?_)
      refine sO rfl rfl (oV rfl ?_)
      refine sO rfl rfl (oV rfl ?_)
      obtain ⟨x, hx⟩ : ∃ x, l[n]? = some x := ⟨_, List.getElem?_eq_getElem (by omega)⟩
      obtain ⟨id, o, T, kk, cs, rfl, hg, hle, hc⟩ := hl.at (fun _ => rfl) hx
      refine sO rfl rfl (oIA (z := 1) rfl rfl rfl rfl (by omega) ?_)
      refine sO rfl rfl (oLoad (x := .at (.int .i64 x)) rfl (by repeat (first | assumption | exact Heap.push_new | exact Heap.set_newl (by first | (simp only [Heap.n_push, Heap.n_set]; omega) | exact Heap.get_lt (by assumption)) | refine Heap.push_old ?_ | refine Heap.set_old ?_ (by first | assumption | omega | (simp only [Heap.n_push, Heap.n_set]; omega)) (by first | (simp only [Heap.n_push, Heap.n_set]; omega) | exact Heap.get_lt (by assumption)))) (part_one hc rfl rfl rfl) ?_)
      refine sO rfl rfl (oV rfl ?_)
      refine sO rfl rfl (oV rfl ?_)
      refine sO rfl rfl (oF rfl (fnOk_of Try.func16 (by decide) rfl) (Pick_ok x 30 _ (by omega) (by omega)) ?_)
      refine sO rfl rfl (oIA (z := 1) rfl rfl rfl rfl (pk_lt x 30 (by omega)) ?_)
      refine sO rfl rfl (oLoad (x := .at (.str (pc x))) rfl (by repeat (first | assumption | exact Heap.push_new | exact Heap.set_newl (by first | (simp only [Heap.n_push, Heap.n_set]; omega) | exact Heap.get_lt (by assumption)) | refine Heap.push_old ?_ | refine Heap.set_old ?_ (by first | assumption | omega | (simp only [Heap.n_push, Heap.n_set]; omega)) (by first | (simp only [Heap.n_push, Heap.n_set]; omega) | exact Heap.get_lt (by assumption)))) (part_at rfl rfl rfl (pc_get x)) ?_)
      refine sO rfl rfl (oCat rfl rfl (by have := pcs_len (l.take n); have := pc_len x; omega) ?_)
      refine sO rfl rfl (oV rfl ?_)
      show Tri Try.prog 30 _ _ _ _
      refine Tri.has (l := [(0, _), (3, _), (4, _), (5, _), (14, _)]) ⟨rfl, rfl, rfl, rfl, rfl, trivial⟩ ?_
      refine Tri.region mixed eqsOk (eqs := eqs) ?_
      refine sO rfl rfl (oV rfl ?_)
      refine sO rfl rfl (oAdd (m := 1) rfl (by omega) ?_)
      refine sO rfl rfl (oV rfl ?_)
      refine ⟨30 - (n + 1), by omega, n + 1, rfl, by omega, by omega, ⟨rfl, rfl, ?_, rfl, trivial⟩, rfl⟩
      rw [pcs_snoc hx (by omega)]; rfl
    ·
      refine sO rfl rfl (oV rfl ?_)
      show Tri Try.prog 30 _ _ _ _
      refine Tri.has (l := [(0, _), (3, _), (4, _), (5, _), (14, _)]) ⟨rfl, rfl, rfl, rfl, rfl, trivial⟩ ?_
      refine Tri.cond (t := false) rfl (fun h => Bool.noConfusion h) (fun _ => ?_)
      refine Tri.exit ?_
      show Tri Try.prog 30 _ _ _ _
      refine Tri.has (l := [(0, _), (3, _), (4, _), (5, _), (14, _)]) ⟨rfl, rfl, rfl, rfl, rfl, trivial⟩ ?_
      refine Tri.seq ?_
      refine Tri.region mixed eqsOk (eqs := eqs) ?_
      refine sO rfl rfl (oV rfl ?_)
      refine sO rfl rfl (oV rfl ?_)
      show Tri Try.prog 30 _ _ _ _
      refine Tri.has (l := [(0, _), (2, _), (3, _), (4, _), (5, _), (14, _)]) ⟨rfl, rfl, rfl, rfl, rfl, rfl, trivial⟩ ?_
      refine Tri.ret ?_
      refine ⟨trivial, _, rfl, ?_⟩
      have e : pcs (l.take n) = pcs l := by
        by_cases hlt : n < l.length
        · have : n = 30 := by omega
          subst this; unfold pcs; rw [List.take_take]; rfl
        · rw [List.take_of_length_le (by omega)]
      rw [e]; exact ⟨(by repeat (first | assumption | exact Kp.refl | refine Kp.push ?_ | refine Kp.set ?_ (by first | (simp only [Heap.n_push, Heap.n_set]; omega) | exact Heap.get_lt (by assumption)) (.inr (by first | omega | (simp only [Heap.n_push, Heap.n_set]; omega))))), rfl, rfl⟩
  ·
    refine sO rfl rfl (oV rfl ?_)
    refine sN rfl rfl ?_
    refine sN rfl rfl ?_
    refine sO rfl rfl (oV rfl ?_)
    show Tri Try.prog 30 _ _ _ _
    refine Tri.has (l := [(0, _), (3, _), (4, _), (5, _), (14, _)]) ⟨rfl, rfl, rfl, rfl, rfl, trivial⟩ ?_
    refine Tri.cond (t := false) rfl (fun h => Bool.noConfusion h) (fun _ => ?_)
    refine Tri.exit ?_
    show Tri Try.prog 30 _ _ _ _
    refine Tri.has (l := [(0, _), (3, _), (4, _), (5, _), (14, _)]) ⟨rfl, rfl, rfl, rfl, rfl, trivial⟩ ?_
    refine Tri.seq ?_
    refine Tri.region mixed eqsOk (eqs := eqs) ?_
    refine sO rfl rfl (oV rfl ?_)
    refine sO rfl rfl (oV rfl ?_)
    show Tri Try.prog 30 _ _ _ _
    refine Tri.has (l := [(0, _), (2, _), (3, _), (4, _), (5, _), (14, _)]) ⟨rfl, rfl, rfl, rfl, rfl, rfl, trivial⟩ ?_
    refine Tri.ret ?_
    refine ⟨trivial, _, rfl, ?_⟩
    have e : pcs (l.take n) = pcs l := by
      by_cases hlt : n < l.length
      · have : n = 30 := by omega
        subst this; unfold pcs; rw [List.take_take]; rfl
      · rw [List.take_of_length_le (by omega)]
    rw [e]; exact ⟨(by repeat (first | assumption | exact Kp.refl | refine Kp.push ?_ | refine Kp.set ?_ (by first | (simp only [Heap.n_push, Heap.n_set]; omega) | exact Heap.get_lt (by assumption)) (.inr (by first | omega | (simp only [Heap.n_push, Heap.n_set]; omega))))), rfl, rfl⟩
theorem blank_at {s : List UInt8} {n : Nat} {b : UInt8} (i : Bool) (h : s[n]? = some b) : blankG i (s.drop n) = if b = 10 then blankG false (s.drop (n + 1)) else if b = 35 then blankG true (s.drop (n + 1)) else if i = false ∧ b ≠ 32 ∧ b ≠ 9 ∧ b ≠ 13 then false else blankG i (s.drop (n + 1)) := by rw [drop_at h]; rfl

theorem blank_ok (s : List UInt8) (H : Heap) (hs : s.length < 1000000) : Sim Try.prog 14 [at' (.str s)] H (fun u G => u = at' (.bool (blankG false s)) ∧ G = H) := by
  refine Sim.of_tri Try.func14 rfl ?_
  show Tri Try.prog 42 _ _ _ _
  refine Tri.seq ?_
  refine Tri.region mixed eqsOk (eqs := eqs) ?_
  refine sO rfl rfl (oV rfl ?_)
  show Tri Try.prog 42 _ _ _ _
  refine Tri.has (l := [(0, _), (2, _)]) ⟨rfl, rfl, trivial⟩ ?_
  refine Tri.seq ?_
  refine Tri.region mixed eqsOk (eqs := eqs) ?_
  refine sO rfl rfl (oV rfl ?_)
  show Tri Try.prog 42 _ _ _ _
  refine Tri.has (l := [(0, _), (2, _), (3, _)]) ⟨rfl, rfl, rfl, trivial⟩ ?_
  refine Tri.seq ?_
  refine Tri.seq ?_
  refine Tri.region mixed eqsOk (eqs := eqs) ?_
  refine sO rfl rfl (oV rfl ?_)
  show Tri Try.prog 42 _ _ _ _
  refine Tri.has (l := [(0, _), (2, _), (3, _), (4, _)]) ⟨rfl, rfl, rfl, rfl, trivial⟩ ?_
  refine Tri.block ?_
  refine Tri.loop (fun k lk1 H1 => ∃ (n : Nat) (i : Bool), k = s.length - n ∧ n ≤ s.length ∧ blankG i (s.drop n) = blankG false s ∧ Has lk1 [(0, at' (.str s)), (3, at' (.bool i)), (4, at' (.int .i64 n))] ∧ H = H1) (s.length) (⟨0, false, rfl, by omega, by simp, ⟨rfl, rfl, rfl, trivial⟩, rfl⟩) ?_
  rintro k lk1 H1 ⟨n, i, hk, hn, he, hh, rfl⟩
  refine Tri.has hh ?_
  cases i
  ·
    refine Tri.seq ?_
    refine Tri.seq ?_
    refine Tri.region mixed eqsOk (eqs := eqs) ?_
    refine sO rfl rfl (oV rfl ?_)
    refine sO rfl rfl (oV rfl ?_)
    refine sO rfl rfl (oV rfl ?_)
    refine sO rfl rfl (oP rfl (fun h8 => ?_) (fun h8 => ?_))
    ·
      show Tri Try.prog 42 _ _ _ _
      refine Tri.has (l := [(0, _), (3, _), (4, _), (8, _)]) ⟨rfl, rfl, rfl, rfl, trivial⟩ ?_
      refine Tri.cond (t := true) rfl (fun _ => ?_) (fun h => Bool.noConfusion h)
      refine Tri.skip ?_
      show Tri Try.prog 42 _ _ _ _
      refine Tri.has (l := [(0, _), (3, _), (4, _), (8, _)]) ⟨rfl, rfl, rfl, rfl, trivial⟩ ?_
      refine Tri.seq ?_
      refine Tri.block ?_
      refine Tri.block ?_
      refine Tri.seq ?_
      refine Tri.region mixed eqsOk (eqs := eqs) ?_
      refine sO rfl rfl (oV rfl ?_)
      refine sO rfl rfl (oV rfl ?_)
      refine sO rfl rfl (oIdx rfl rfl rfl (by omega) (fun b14 hb14 => ?_))
      refine sO rfl rfl (oE rfl (fun h15 => ?_) (fun h15 => ?_))
      ·
        refine sO rfl rfl (oV rfl ?_)
        show Tri Try.prog 42 _ _ _ _
        refine Tri.has (l := [(0, _), (3, _), (4, _), (8, _), (11, _)]) ⟨rfl, rfl, rfl, rfl, rfl, trivial⟩ ?_
        refine Tri.cond (t := true) rfl (fun _ => ?_) (fun h => Bool.noConfusion h)
        refine Tri.region mixed eqsOk (eqs := eqs) ?_
        refine sO rfl rfl (oV rfl ?_)
        show Tri Try.prog 42 _ _ _ _
        refine Tri.has (l := [(0, _), (3, _), (4, _), (8, _), (11, _)]) ⟨rfl, rfl, rfl, rfl, rfl, trivial⟩ ?_
        refine Tri.region mixed eqsOk (eqs := eqs) ?_
        refine sO rfl rfl (oV rfl ?_)
        refine sO rfl rfl (oAdd (m := 1) rfl (by omega) ?_)
        refine sO rfl rfl (oV rfl ?_)
        refine ⟨s.length - (n + 1), by omega, n + 1, _, rfl, by omega, ?_, ⟨rfl, rfl, rfl, trivial⟩, rfl⟩
        clear hh
        try (rw [hb14] at hb19; cases hb19)
        try (rw [hb14] at hb27; cases hb27)
        try (rw [hb14] at hb33; cases hb33)
        try (rw [hb14] at hb39; cases hb39)
        rw [blank_at _ hb14] at he
        by_cases n1 : b14 = 10
        · first
            | (rw [if_pos n1] at he; exact he)
            | (subst n1; exact absurd rfl h15)
        · by_cases n2 : b14 = 35
          · first
              | (rw [if_neg n1, if_pos n2] at he; exact he)
              | (subst n2; first | exact absurd rfl h20 | (exact absurd h15 (by decide)))
          · rw [if_neg n1, if_neg n2] at he
            first
              | (exact absurd (b8e (n := 10) h15 (by omega)) n1)
              | (exact absurd (b8e (n := 35) h20 (by omega)) n2)
              | (simp only [reduceCtorEq, false_and, if_false] at he; exact he)
              | (rw [if_neg (by rintro ⟨_, g1, g2, g3⟩; first | exact g1 (b8e (n := 32) h28 (by omega)) | exact g2 (b8e (n := 9) h34 (by omega)) | exact g3 (b8e (n := 13) h40 (by omega)))] at he; exact he)
      ·
        refine sO rfl rfl (oV rfl ?_)
        show Tri Try.prog 42 _ _ _ _
        refine Tri.has (l := [(0, _), (3, _), (4, _), (8, _), (11, _)]) ⟨rfl, rfl, rfl, rfl, rfl, trivial⟩ ?_
        refine Tri.cond (t := false) rfl (fun h => Bool.noConfusion h) (fun _ => ?_)
        refine Tri.seq ?_
        refine Tri.region mixed eqsOk (eqs := eqs) ?_
        refine sO rfl rfl (oV rfl ?_)
        refine sO rfl rfl (oV rfl ?_)
        refine sO rfl rfl (oIdx rfl rfl rfl (by omega) (fun b19 hb19 => ?_))
        refine sO rfl rfl (oE rfl (fun h20 => ?_) (fun h20 => ?_))
        ·
          refine sO rfl rfl (oV rfl ?_)
          show Tri Try.prog 42 _ _ _ _
          refine Tri.has (l := [(0, _), (3, _), (4, _), (8, _), (11, _), (16, _)]) ⟨rfl, rfl, rfl, rfl, rfl, rfl, trivial⟩ ?_
          refine Tri.cond (t := true) rfl (fun _ => ?_) (fun h => Bool.noConfusion h)
          refine Tri.region mixed eqsOk (eqs := eqs) ?_
          refine sO rfl rfl (oV rfl ?_)
          show Tri Try.prog 42 _ _ _ _
          refine Tri.has (l := [(0, _), (3, _), (4, _), (8, _), (11, _), (16, _)]) ⟨rfl, rfl, rfl, rfl, rfl, rfl, trivial⟩ ?_
          refine Tri.region mixed eqsOk (eqs := eqs) ?_
          refine sO rfl rfl (oV rfl ?_)
          refine sO rfl rfl (oAdd (m := 1) rfl (by omega) ?_)
          refine sO rfl rfl (oV rfl ?_)
          refine ⟨s.length - (n + 1), by omega, n + 1, _, rfl, by omega, ?_, ⟨rfl, rfl, rfl, trivial⟩, rfl⟩
          clear hh
          try (rw [hb14] at hb19; cases hb19)
          try (rw [hb14] at hb27; cases hb27)
          try (rw [hb14] at hb33; cases hb33)
          try (rw [hb14] at hb39; cases hb39)
          rw [blank_at _ hb14] at he
          by_cases n1 : b14 = 10
          · first
              | (rw [if_pos n1] at he; exact he)
              | (subst n1; exact absurd rfl h15)
          · by_cases n2 : b14 = 35
            · first
                | (rw [if_neg n1, if_pos n2] at he; exact he)
                | (subst n2; first | exact absurd rfl h20 | (exact absurd h15 (by decide)))
            · rw [if_neg n1, if_neg n2] at he
              first
                | (exact absurd (b8e (n := 10) h15 (by omega)) n1)
                | (exact absurd (b8e (n := 35) h20 (by omega)) n2)
                | (simp only [reduceCtorEq, false_and, if_false] at he; exact he)
                | (rw [if_neg (by rintro ⟨_, g1, g2, g3⟩; first | exact g1 (b8e (n := 32) h28 (by omega)) | exact g2 (b8e (n := 9) h34 (by omega)) | exact g3 (b8e (n := 13) h40 (by omega)))] at he; exact he)
        ·
          refine sO rfl rfl (oV rfl ?_)
          show Tri Try.prog 42 _ _ _ _
          refine Tri.has (l := [(0, _), (3, _), (4, _), (8, _), (11, _), (16, _)]) ⟨rfl, rfl, rfl, rfl, rfl, rfl, trivial⟩ ?_
          refine Tri.cond (t := false) rfl (fun h => Bool.noConfusion h) (fun _ => ?_)
          refine Tri.seq ?_
          refine Tri.region mixed eqsOk (eqs := eqs) ?_
          refine sO rfl rfl (oV rfl ?_)
          refine sO rfl rfl (oV rfl ?_)
          refine sO rfl rfl (oV rfl ?_)
          refine sO rfl rfl (oV rfl ?_)
          refine sO rfl rfl (oV rfl ?_)
          refine sO rfl rfl (oIdx rfl rfl rfl (by omega) (fun b27 hb27 => ?_))
          refine sO rfl rfl (oNE rfl (fun h28 => ?_) (fun h28 => ?_))
          ·
            refine sO rfl rfl (oV rfl ?_)
            refine sO rfl rfl (oV rfl ?_)
            refine sO rfl rfl (oV rfl ?_)
            refine sO rfl rfl (oV rfl ?_)
            refine sO rfl rfl (oIdx rfl rfl rfl (by omega) (fun b33 hb33 => ?_))
            refine sO rfl rfl (oNE rfl (fun h34 => ?_) (fun h34 => ?_))
            ·
              refine sO rfl rfl (oV rfl ?_)
              refine sO rfl rfl (oV rfl ?_)
              refine sO rfl rfl (oV rfl ?_)
              refine sO rfl rfl (oV rfl ?_)
              refine sO rfl rfl (oIdx rfl rfl rfl (by omega) (fun b39 hb39 => ?_))
              refine sO rfl rfl (oNE rfl (fun h40 => ?_) (fun h40 => ?_))
              ·
                refine sO rfl rfl (oV rfl ?_)
                refine sO rfl rfl (oV rfl ?_)
                show Tri Try.prog 42 _ _ _ _
                refine Tri.has (l := [(0, _), (3, _), (4, _), (8, _), (11, _), (16, _), (21, _)]) ⟨rfl, rfl, rfl, rfl, rfl, rfl, rfl, trivial⟩ ?_
                refine Tri.cond (t := true) rfl (fun _ => ?_) (fun h => Bool.noConfusion h)
                refine Tri.seq ?_
                refine Tri.region mixed eqsOk (eqs := eqs) ?_
                refine sO rfl rfl (oV rfl ?_)
                show Tri Try.prog 42 _ _ _ _
                refine Tri.has (l := [(0, _), (2, _), (3, _), (4, _), (8, _), (11, _), (16, _), (21, _)]) ⟨rfl, rfl, rfl, rfl, rfl, rfl, rfl, rfl, trivial⟩ ?_
                refine Tri.ret ?_
                refine ⟨trivial, _, rfl, ?_⟩
                have e : blankG false s = false := by
                  rw [hb14] at hb19; cases hb19; rw [hb14] at hb27; cases hb27; rw [hb14] at hb33; cases hb33; rw [hb14] at hb39; cases hb39
                  rw [← he, blank_at _ hb14, if_neg (show ¬ b14 = 10 from b8n (n := 10) h15 (by omega)), if_neg (show ¬ b14 = 35 from b8n (n := 35) h20 (by omega)), if_pos ⟨rfl, b8n (n := 32) h28 (by omega), b8n (n := 9) h34 (by omega), b8n (n := 13) h40 (by omega)⟩]
                rw [e]; exact ⟨rfl, rfl⟩
              ·
                refine sO rfl rfl (oV rfl ?_)
                refine sO rfl rfl (oV rfl ?_)
                show Tri Try.prog 42 _ _ _ _
                refine Tri.has (l := [(0, _), (3, _), (4, _), (8, _), (11, _), (16, _), (21, _)]) ⟨rfl, rfl, rfl, rfl, rfl, rfl, rfl, trivial⟩ ?_
                refine Tri.cond (t := false) rfl (fun h => Bool.noConfusion h) (fun _ => ?_)
                refine Tri.skip ?_
                show Tri Try.prog 42 _ _ _ _
                refine Tri.has (l := [(0, _), (3, _), (4, _), (8, _), (11, _), (16, _), (21, _)]) ⟨rfl, rfl, rfl, rfl, rfl, rfl, rfl, trivial⟩ ?_
                refine Tri.region mixed eqsOk (eqs := eqs) ?_
                refine sO rfl rfl (oV rfl ?_)
                refine sO rfl rfl (oAdd (m := 1) rfl (by omega) ?_)
                refine sO rfl rfl (oV rfl ?_)
                refine ⟨s.length - (n + 1), by omega, n + 1, _, rfl, by omega, ?_, ⟨rfl, rfl, rfl, trivial⟩, rfl⟩
                clear hh
                try (rw [hb14] at hb19; cases hb19)
                try (rw [hb14] at hb27; cases hb27)
                try (rw [hb14] at hb33; cases hb33)
                try (rw [hb14] at hb39; cases hb39)
                rw [blank_at _ hb14] at he
                by_cases n1 : b14 = 10
                · first
                    | (rw [if_pos n1] at he; exact he)
                    | (subst n1; exact absurd rfl h15)
                · by_cases n2 : b14 = 35
                  · first
                      | (rw [if_neg n1, if_pos n2] at he; exact he)
                      | (subst n2; first | exact absurd rfl h20 | (exact absurd h15 (by decide)))
                  · rw [if_neg n1, if_neg n2] at he
                    first
                      | (exact absurd (b8e (n := 10) h15 (by omega)) n1)
                      | (exact absurd (b8e (n := 35) h20 (by omega)) n2)
                      | (simp only [reduceCtorEq, false_and, if_false] at he; exact he)
                      | (rw [if_neg (by rintro ⟨_, g1, g2, g3⟩; first | exact g1 (b8e (n := 32) h28 (by omega)) | exact g2 (b8e (n := 9) h34 (by omega)) | exact g3 (b8e (n := 13) h40 (by omega)))] at he; exact he)
            ·
              refine sO rfl rfl (oV rfl ?_)
              refine sO rfl rfl (oV rfl ?_)
              refine sN rfl rfl ?_
              refine sN rfl rfl ?_
              refine sN rfl rfl ?_
              refine sN rfl rfl ?_
              refine sO rfl rfl (oV rfl ?_)
              refine sO rfl rfl (oV rfl ?_)
              show Tri Try.prog 42 _ _ _ _
              refine Tri.has (l := [(0, _), (3, _), (4, _), (8, _), (11, _), (16, _), (21, _)]) ⟨rfl, rfl, rfl, rfl, rfl, rfl, rfl, trivial⟩ ?_
              refine Tri.cond (t := false) rfl (fun h => Bool.noConfusion h) (fun _ => ?_)
              refine Tri.skip ?_
              show Tri Try.prog 42 _ _ _ _
              refine Tri.has (l := [(0, _), (3, _), (4, _), (8, _), (11, _), (16, _), (21, _)]) ⟨rfl, rfl, rfl, rfl, rfl, rfl, rfl, trivial⟩ ?_
              refine Tri.region mixed eqsOk (eqs := eqs) ?_
              refine sO rfl rfl (oV rfl ?_)
              refine sO rfl rfl (oAdd (m := 1) rfl (by omega) ?_)
              refine sO rfl rfl (oV rfl ?_)
              refine ⟨s.length - (n + 1), by omega, n + 1, _, rfl, by omega, ?_, ⟨rfl, rfl, rfl, trivial⟩, rfl⟩
              clear hh
              try (rw [hb14] at hb19; cases hb19)
              try (rw [hb14] at hb27; cases hb27)
              try (rw [hb14] at hb33; cases hb33)
              try (rw [hb14] at hb39; cases hb39)
              rw [blank_at _ hb14] at he
              by_cases n1 : b14 = 10
              · first
                  | (rw [if_pos n1] at he; exact he)
                  | (subst n1; exact absurd rfl h15)
              · by_cases n2 : b14 = 35
                · first
                    | (rw [if_neg n1, if_pos n2] at he; exact he)
                    | (subst n2; first | exact absurd rfl h20 | (exact absurd h15 (by decide)))
                · rw [if_neg n1, if_neg n2] at he
                  first
                    | (exact absurd (b8e (n := 10) h15 (by omega)) n1)
                    | (exact absurd (b8e (n := 35) h20 (by omega)) n2)
                    | (simp only [reduceCtorEq, false_and, if_false] at he; exact he)
                    | (rw [if_neg (by rintro ⟨_, g1, g2, g3⟩; first | exact g1 (b8e (n := 32) h28 (by omega)) | exact g2 (b8e (n := 9) h34 (by omega)) | exact g3 (b8e (n := 13) h40 (by omega)))] at he; exact he)
          ·
            refine sO rfl rfl (oV rfl ?_)
            refine sO rfl rfl (oV rfl ?_)
            refine sN rfl rfl ?_
            refine sN rfl rfl ?_
            refine sN rfl rfl ?_
            refine sN rfl rfl ?_
            refine sO rfl rfl (oV rfl ?_)
            refine sO rfl rfl (oV rfl ?_)
            refine sN rfl rfl ?_
            refine sN rfl rfl ?_
            refine sN rfl rfl ?_
            refine sN rfl rfl ?_
            refine sO rfl rfl (oV rfl ?_)
            refine sO rfl rfl (oV rfl ?_)
            show Tri Try.prog 42 _ _ _ _
            refine Tri.has (l := [(0, _), (3, _), (4, _), (8, _), (11, _), (16, _), (21, _)]) ⟨rfl, rfl, rfl, rfl, rfl, rfl, rfl, trivial⟩ ?_
            refine Tri.cond (t := false) rfl (fun h => Bool.noConfusion h) (fun _ => ?_)
            refine Tri.skip ?_
            show Tri Try.prog 42 _ _ _ _
            refine Tri.has (l := [(0, _), (3, _), (4, _), (8, _), (11, _), (16, _), (21, _)]) ⟨rfl, rfl, rfl, rfl, rfl, rfl, rfl, trivial⟩ ?_
            refine Tri.region mixed eqsOk (eqs := eqs) ?_
            refine sO rfl rfl (oV rfl ?_)
            refine sO rfl rfl (oAdd (m := 1) rfl (by omega) ?_)
            refine sO rfl rfl (oV rfl ?_)
            refine ⟨s.length - (n + 1), by omega, n + 1, _, rfl, by omega, ?_, ⟨rfl, rfl, rfl, trivial⟩, rfl⟩
            clear hh
            try (rw [hb14] at hb19; cases hb19)
            try (rw [hb14] at hb27; cases hb27)
            try (rw [hb14] at hb33; cases hb33)
            try (rw [hb14] at hb39; cases hb39)
            rw [blank_at _ hb14] at he
            by_cases n1 : b14 = 10
            · first
                | (rw [if_pos n1] at he; exact he)
                | (subst n1; exact absurd rfl h15)
            · by_cases n2 : b14 = 35
              · first
                  | (rw [if_neg n1, if_pos n2] at he; exact he)
                  | (subst n2; first | exact absurd rfl h20 | (exact absurd h15 (by decide)))
              · rw [if_neg n1, if_neg n2] at he
                first
                  | (exact absurd (b8e (n := 10) h15 (by omega)) n1)
                  | (exact absurd (b8e (n := 35) h20 (by omega)) n2)
                  | (simp only [reduceCtorEq, false_and, if_false] at he; exact he)
                  | (rw [if_neg (by rintro ⟨_, g1, g2, g3⟩; first | exact g1 (b8e (n := 32) h28 (by omega)) | exact g2 (b8e (n := 9) h34 (by omega)) | exact g3 (b8e (n := 13) h40 (by omega)))] at he; exact he)
    ·
      show Tri Try.prog 42 _ _ _ _
      refine Tri.has (l := [(0, _), (3, _), (4, _), (8, _)]) ⟨rfl, rfl, rfl, rfl, trivial⟩ ?_
      refine Tri.cond (t := false) rfl (fun h => Bool.noConfusion h) (fun _ => ?_)
      refine Tri.exit ?_
      show Tri Try.prog 42 _ _ _ _
      refine Tri.has (l := [(0, _), (3, _), (4, _), (8, _)]) ⟨rfl, rfl, rfl, rfl, trivial⟩ ?_
      refine Tri.seq ?_
      refine Tri.region mixed eqsOk (eqs := eqs) ?_
      refine sO rfl rfl (oV rfl ?_)
      show Tri Try.prog 42 _ _ _ _
      refine Tri.has (l := [(0, _), (2, _), (3, _), (4, _), (8, _)]) ⟨rfl, rfl, rfl, rfl, rfl, trivial⟩ ?_
      refine Tri.ret ?_
      refine ⟨trivial, _, rfl, ?_⟩
      have e : blankG false s = true := by rw [← he, List.drop_eq_nil_of_le (by omega)]; rfl
      rw [e]; exact ⟨rfl, rfl⟩
  ·
    refine Tri.seq ?_
    refine Tri.seq ?_
    refine Tri.region mixed eqsOk (eqs := eqs) ?_
    refine sO rfl rfl (oV rfl ?_)
    refine sO rfl rfl (oV rfl ?_)
    refine sO rfl rfl (oV rfl ?_)
    refine sO rfl rfl (oP rfl (fun h8 => ?_) (fun h8 => ?_))
    ·
      show Tri Try.prog 42 _ _ _ _
      refine Tri.has (l := [(0, _), (3, _), (4, _), (8, _)]) ⟨rfl, rfl, rfl, rfl, trivial⟩ ?_
      refine Tri.cond (t := true) rfl (fun _ => ?_) (fun h => Bool.noConfusion h)
      refine Tri.skip ?_
      show Tri Try.prog 42 _ _ _ _
      refine Tri.has (l := [(0, _), (3, _), (4, _), (8, _)]) ⟨rfl, rfl, rfl, rfl, trivial⟩ ?_
      refine Tri.seq ?_
      refine Tri.block ?_
      refine Tri.block ?_
      refine Tri.seq ?_
      refine Tri.region mixed eqsOk (eqs := eqs) ?_
      refine sO rfl rfl (oV rfl ?_)
      refine sO rfl rfl (oV rfl ?_)
      refine sO rfl rfl (oIdx rfl rfl rfl (by omega) (fun b14 hb14 => ?_))
      refine sO rfl rfl (oE rfl (fun h15 => ?_) (fun h15 => ?_))
      ·
        refine sO rfl rfl (oV rfl ?_)
        show Tri Try.prog 42 _ _ _ _
        refine Tri.has (l := [(0, _), (3, _), (4, _), (8, _), (11, _)]) ⟨rfl, rfl, rfl, rfl, rfl, trivial⟩ ?_
        refine Tri.cond (t := true) rfl (fun _ => ?_) (fun h => Bool.noConfusion h)
        refine Tri.region mixed eqsOk (eqs := eqs) ?_
        refine sO rfl rfl (oV rfl ?_)
        show Tri Try.prog 42 _ _ _ _
        refine Tri.has (l := [(0, _), (3, _), (4, _), (8, _), (11, _)]) ⟨rfl, rfl, rfl, rfl, rfl, trivial⟩ ?_
        refine Tri.region mixed eqsOk (eqs := eqs) ?_
        refine sO rfl rfl (oV rfl ?_)
        refine sO rfl rfl (oAdd (m := 1) rfl (by omega) ?_)
        refine sO rfl rfl (oV rfl ?_)
        refine ⟨s.length - (n + 1), by omega, n + 1, _, rfl, by omega, ?_, ⟨rfl, rfl, rfl, trivial⟩, rfl⟩
        clear hh
        try (rw [hb14] at hb19; cases hb19)
        try (rw [hb14] at hb27; cases hb27)
        try (rw [hb14] at hb33; cases hb33)
        try (rw [hb14] at hb39; cases hb39)
        rw [blank_at _ hb14] at he
        by_cases n1 : b14 = 10
        · first
            | (rw [if_pos n1] at he; exact he)
            | (subst n1; exact absurd rfl h15)
        · by_cases n2 : b14 = 35
          · first
              | (rw [if_neg n1, if_pos n2] at he; exact he)
              | (subst n2; first | exact absurd rfl h20 | (exact absurd h15 (by decide)))
          · rw [if_neg n1, if_neg n2] at he
            first
              | (exact absurd (b8e (n := 10) h15 (by omega)) n1)
              | (exact absurd (b8e (n := 35) h20 (by omega)) n2)
              | (simp only [reduceCtorEq, false_and, if_false] at he; exact he)
              | (rw [if_neg (by rintro ⟨_, g1, g2, g3⟩; first | exact g1 (b8e (n := 32) h28 (by omega)) | exact g2 (b8e (n := 9) h34 (by omega)) | exact g3 (b8e (n := 13) h40 (by omega)))] at he; exact he)
      ·
        refine sO rfl rfl (oV rfl ?_)
        show Tri Try.prog 42 _ _ _ _
        refine Tri.has (l := [(0, _), (3, _), (4, _), (8, _), (11, _)]) ⟨rfl, rfl, rfl, rfl, rfl, trivial⟩ ?_
        refine Tri.cond (t := false) rfl (fun h => Bool.noConfusion h) (fun _ => ?_)
        refine Tri.seq ?_
        refine Tri.region mixed eqsOk (eqs := eqs) ?_
        refine sO rfl rfl (oV rfl ?_)
        refine sO rfl rfl (oV rfl ?_)
        refine sO rfl rfl (oIdx rfl rfl rfl (by omega) (fun b19 hb19 => ?_))
        refine sO rfl rfl (oE rfl (fun h20 => ?_) (fun h20 => ?_))
        ·
          refine sO rfl rfl (oV rfl ?_)
          show Tri Try.prog 42 _ _ _ _
          refine Tri.has (l := [(0, _), (3, _), (4, _), (8, _), (11, _), (16, _)]) ⟨rfl, rfl, rfl, rfl, rfl, rfl, trivial⟩ ?_
          refine Tri.cond (t := true) rfl (fun _ => ?_) (fun h => Bool.noConfusion h)
          refine Tri.region mixed eqsOk (eqs := eqs) ?_
          refine sO rfl rfl (oV rfl ?_)
          show Tri Try.prog 42 _ _ _ _
          refine Tri.has (l := [(0, _), (3, _), (4, _), (8, _), (11, _), (16, _)]) ⟨rfl, rfl, rfl, rfl, rfl, rfl, trivial⟩ ?_
          refine Tri.region mixed eqsOk (eqs := eqs) ?_
          refine sO rfl rfl (oV rfl ?_)
          refine sO rfl rfl (oAdd (m := 1) rfl (by omega) ?_)
          refine sO rfl rfl (oV rfl ?_)
          refine ⟨s.length - (n + 1), by omega, n + 1, _, rfl, by omega, ?_, ⟨rfl, rfl, rfl, trivial⟩, rfl⟩
          clear hh
          try (rw [hb14] at hb19; cases hb19)
          try (rw [hb14] at hb27; cases hb27)
          try (rw [hb14] at hb33; cases hb33)
          try (rw [hb14] at hb39; cases hb39)
          rw [blank_at _ hb14] at he
          by_cases n1 : b14 = 10
          · first
              | (rw [if_pos n1] at he; exact he)
              | (subst n1; exact absurd rfl h15)
          · by_cases n2 : b14 = 35
            · first
                | (rw [if_neg n1, if_pos n2] at he; exact he)
                | (subst n2; first | exact absurd rfl h20 | (exact absurd h15 (by decide)))
            · rw [if_neg n1, if_neg n2] at he
              first
                | (exact absurd (b8e (n := 10) h15 (by omega)) n1)
                | (exact absurd (b8e (n := 35) h20 (by omega)) n2)
                | (simp only [reduceCtorEq, false_and, if_false] at he; exact he)
                | (rw [if_neg (by rintro ⟨_, g1, g2, g3⟩; first | exact g1 (b8e (n := 32) h28 (by omega)) | exact g2 (b8e (n := 9) h34 (by omega)) | exact g3 (b8e (n := 13) h40 (by omega)))] at he; exact he)
        ·
          refine sO rfl rfl (oV rfl ?_)
          show Tri Try.prog 42 _ _ _ _
          refine Tri.has (l := [(0, _), (3, _), (4, _), (8, _), (11, _), (16, _)]) ⟨rfl, rfl, rfl, rfl, rfl, rfl, trivial⟩ ?_
          refine Tri.cond (t := false) rfl (fun h => Bool.noConfusion h) (fun _ => ?_)
          refine Tri.seq ?_
          refine Tri.region mixed eqsOk (eqs := eqs) ?_
          refine sO rfl rfl (oV rfl ?_)
          refine sO rfl rfl (oV rfl ?_)
          refine sO rfl rfl (oV rfl ?_)
          refine sN rfl rfl ?_
          refine sN rfl rfl ?_
          refine sN rfl rfl ?_
          refine sN rfl rfl ?_
          refine sO rfl rfl (oV rfl ?_)
          refine sO rfl rfl (oV rfl ?_)
          refine sN rfl rfl ?_
          refine sN rfl rfl ?_
          refine sN rfl rfl ?_
          refine sN rfl rfl ?_
          refine sO rfl rfl (oV rfl ?_)
          refine sO rfl rfl (oV rfl ?_)
          refine sN rfl rfl ?_
          refine sN rfl rfl ?_
          refine sN rfl rfl ?_
          refine sN rfl rfl ?_
          refine sO rfl rfl (oV rfl ?_)
          refine sO rfl rfl (oV rfl ?_)
          show Tri Try.prog 42 _ _ _ _
          refine Tri.has (l := [(0, _), (3, _), (4, _), (8, _), (11, _), (16, _), (21, _)]) ⟨rfl, rfl, rfl, rfl, rfl, rfl, rfl, trivial⟩ ?_
          refine Tri.cond (t := false) rfl (fun h => Bool.noConfusion h) (fun _ => ?_)
          refine Tri.skip ?_
          show Tri Try.prog 42 _ _ _ _
          refine Tri.has (l := [(0, _), (3, _), (4, _), (8, _), (11, _), (16, _), (21, _)]) ⟨rfl, rfl, rfl, rfl, rfl, rfl, rfl, trivial⟩ ?_
          refine Tri.region mixed eqsOk (eqs := eqs) ?_
          refine sO rfl rfl (oV rfl ?_)
          refine sO rfl rfl (oAdd (m := 1) rfl (by omega) ?_)
          refine sO rfl rfl (oV rfl ?_)
          refine ⟨s.length - (n + 1), by omega, n + 1, _, rfl, by omega, ?_, ⟨rfl, rfl, rfl, trivial⟩, rfl⟩
          clear hh
          try (rw [hb14] at hb19; cases hb19)
          try (rw [hb14] at hb27; cases hb27)
          try (rw [hb14] at hb33; cases hb33)
          try (rw [hb14] at hb39; cases hb39)
          rw [blank_at _ hb14] at he
          by_cases n1 : b14 = 10
          · first
              | (rw [if_pos n1] at he; exact he)
              | (subst n1; exact absurd rfl h15)
          · by_cases n2 : b14 = 35
            · first
                | (rw [if_neg n1, if_pos n2] at he; exact he)
                | (subst n2; first | exact absurd rfl h20 | (exact absurd h15 (by decide)))
            · rw [if_neg n1, if_neg n2] at he
              first
                | (exact absurd (b8e (n := 10) h15 (by omega)) n1)
                | (exact absurd (b8e (n := 35) h20 (by omega)) n2)
                | (simp only [reduceCtorEq, false_and, if_false] at he; exact he)
                | (rw [if_neg (by rintro ⟨_, g1, g2, g3⟩; first | exact g1 (b8e (n := 32) h28 (by omega)) | exact g2 (b8e (n := 9) h34 (by omega)) | exact g3 (b8e (n := 13) h40 (by omega)))] at he; exact he)
    ·
      show Tri Try.prog 42 _ _ _ _
      refine Tri.has (l := [(0, _), (3, _), (4, _), (8, _)]) ⟨rfl, rfl, rfl, rfl, trivial⟩ ?_
      refine Tri.cond (t := false) rfl (fun h => Bool.noConfusion h) (fun _ => ?_)
      refine Tri.exit ?_
      show Tri Try.prog 42 _ _ _ _
      refine Tri.has (l := [(0, _), (3, _), (4, _), (8, _)]) ⟨rfl, rfl, rfl, rfl, trivial⟩ ?_
      refine Tri.seq ?_
      refine Tri.region mixed eqsOk (eqs := eqs) ?_
      refine sO rfl rfl (oV rfl ?_)
      show Tri Try.prog 42 _ _ _ _
      refine Tri.has (l := [(0, _), (2, _), (3, _), (4, _), (8, _)]) ⟨rfl, rfl, rfl, rfl, rfl, trivial⟩ ?_
      refine Tri.ret ?_
      refine ⟨trivial, _, rfl, ?_⟩
      have e : blankG false s = true := by rw [← he, List.drop_eq_nil_of_le (by omega)]; rfl
      rw [e]; exact ⟨rfl, rfl⟩
def lineG : Nat → List UInt8 → List UInt8
  | _, [] => []
  | i, b :: r => if b = 10 ∨ 100 < i then [] else b :: lineG (i + 1) r
theorem line_at {s : List UInt8} {n : Nat} {b : UInt8} (i : Nat) (h : s[n]? = some b) : lineG i (s.drop n) = if b = 10 ∨ 100 < i then [] else b :: lineG (i + 1) (s.drop (n + 1)) := by rw [drop_at h]; rfl
theorem line_len : ∀ (s : List UInt8) (i : Nat), i ≤ 101 → (lineG i s).length + i ≤ 101
  | [], i, h => by simpa [lineG] using h
  | b :: r, i, h => by
    unfold lineG
    split
    · simpa using h
    · have := line_len r (i + 1) (by omega)
      simp only [List.length_cons]; omega
theorem line_no : ∀ (s : List UInt8) (i : Nat), ∀ b ∈ lineG i s, b ≠ 10
  | [], i, b, h => by cases h
  | a :: r, i, b, h => by
    unfold lineG at h
    split at h
    · cases h
    · rename_i hn
      rcases List.mem_cons.1 h with rfl | h
      · exact fun e => hn (.inl e)
      · exact line_no r (i + 1) b h

theorem line_ok (s : List UInt8) (H : Heap) : Sim Try.prog 15 [at' (.str s)] H (fun u G => u = at' (.str (lineG 0 s)) ∧ G = H) := by
  refine Sim.of_tri Try.func15 rfl ?_
  show Tri Try.prog 22 _ _ _ _
  refine Tri.seq ?_
  refine Tri.region mixed eqsOk (eqs := eqs) ?_
  refine sO rfl rfl (oV rfl ?_)
  show Tri Try.prog 22 _ _ _ _
  refine Tri.has (l := [(0, _), (2, _)]) ⟨rfl, rfl, trivial⟩ ?_
  refine Tri.seq ?_
  refine Tri.seq ?_
  refine Tri.region mixed eqsOk (eqs := eqs) ?_
  refine sO rfl rfl (oV rfl ?_)
  show Tri Try.prog 22 _ _ _ _
  refine Tri.has (l := [(0, _), (2, _), (3, _)]) ⟨rfl, rfl, rfl, trivial⟩ ?_
  refine Tri.block ?_
  refine Tri.loop (fun k lk1 H1 => ∃ n : Nat, k = 101 - n ∧ n ≤ 101 ∧ n ≤ s.length ∧ s.take n ++ lineG n (s.drop n) = lineG 0 s ∧ Has lk1 [(0, at' (.str s)), (3, at' (.int .i64 n))] ∧ H = H1) (101) (⟨0, rfl, by omega, by omega, by simp, ⟨rfl, rfl, trivial⟩, rfl⟩) ?_
  rintro k lk1 H1 ⟨n, hk, hn, hnl, he, hh, rfl⟩
  refine Tri.has hh ?_
  refine Tri.seq ?_
  refine Tri.seq ?_
  refine Tri.region mixed eqsOk (eqs := eqs) ?_
  refine sO rfl rfl (oV rfl ?_)
  refine sO rfl rfl (oV rfl ?_)
  refine sO rfl rfl (oV rfl ?_)
  refine sO rfl rfl (oP rfl (fun h7 => ?_) (fun h7 => ?_))
  ·
    show Tri Try.prog 22 _ _ _ _
    refine Tri.has (l := [(0, _), (3, _), (7, _)]) ⟨rfl, rfl, rfl, trivial⟩ ?_
    refine Tri.cond (t := true) rfl (fun _ => ?_) (fun h => Bool.noConfusion h)
    refine Tri.skip ?_
    show Tri Try.prog 22 _ _ _ _
    refine Tri.has (l := [(0, _), (3, _), (7, _)]) ⟨rfl, rfl, rfl, trivial⟩ ?_
    refine Tri.seq ?_
    refine Tri.block ?_
    refine Tri.seq ?_
    refine Tri.region mixed eqsOk (eqs := eqs) ?_
    refine sO rfl rfl (oV rfl ?_)
    refine sO rfl rfl (oV rfl ?_)
    refine sO rfl rfl (oIdx rfl rfl rfl (by omega) (fun b12 hb12 => ?_))
    refine sO rfl rfl (oE rfl (fun h13 => ?_) (fun h13 => ?_))
    ·
      refine sO rfl rfl (oV rfl ?_)
      refine sN rfl rfl ?_
      refine sN rfl rfl ?_
      refine sO rfl rfl (oV rfl ?_)
      show Tri Try.prog 22 _ _ _ _
      refine Tri.has (l := [(0, _), (3, _), (7, _), (17, _)]) ⟨rfl, rfl, rfl, rfl, trivial⟩ ?_
      refine Tri.cond (t := true) rfl (fun _ => ?_) (fun h => Bool.noConfusion h)
      refine Tri.seq ?_
      refine Tri.region mixed eqsOk (eqs := eqs) ?_
      refine sO rfl rfl (oV rfl ?_)
      refine sO rfl rfl (oV rfl ?_)
      refine sO rfl rfl (oHi rfl rfl rfl (by omega) ?_)
      refine sO rfl rfl (oV rfl ?_)
      show Tri Try.prog 22 _ _ _ _
      refine Tri.has (l := [(0, _), (2, _), (3, _), (7, _), (17, _)]) ⟨rfl, rfl, rfl, rfl, rfl, trivial⟩ ?_
      refine Tri.ret ?_
      refine ⟨trivial, _, rfl, ?_⟩
      have e : lineG 0 s = s.take n := by
        rw [← he, line_at n hb12, if_pos (by first | exact .inl (b8e (n := 10) h13 (by omega)) | exact .inr (by omega)), List.append_nil]
      rw [e]; exact ⟨rfl, rfl⟩
    ·
      refine sO rfl rfl (oV rfl ?_)
      refine sO rfl rfl (oV rfl ?_)
      refine sO rfl rfl (oP rfl (fun h16 => ?_) (fun h16 => ?_))
      ·
        refine sO rfl rfl (oV rfl ?_)
        show Tri Try.prog 22 _ _ _ _
        refine Tri.has (l := [(0, _), (3, _), (7, _), (17, _)]) ⟨rfl, rfl, rfl, rfl, trivial⟩ ?_
        refine Tri.cond (t := true) rfl (fun _ => ?_) (fun h => Bool.noConfusion h)
        refine Tri.seq ?_
        refine Tri.region mixed eqsOk (eqs := eqs) ?_
        refine sO rfl rfl (oV rfl ?_)
        refine sO rfl rfl (oV rfl ?_)
        refine sO rfl rfl (oHi rfl rfl rfl (by omega) ?_)
        refine sO rfl rfl (oV rfl ?_)
        show Tri Try.prog 22 _ _ _ _
        refine Tri.has (l := [(0, _), (2, _), (3, _), (7, _), (17, _)]) ⟨rfl, rfl, rfl, rfl, rfl, trivial⟩ ?_
        refine Tri.ret ?_
        refine ⟨trivial, _, rfl, ?_⟩
        have e : lineG 0 s = s.take n := by
          rw [← he, line_at n hb12, if_pos (by first | exact .inl (b8e (n := 10) h13 (by omega)) | exact .inr (by omega)), List.append_nil]
        rw [e]; exact ⟨rfl, rfl⟩
      ·
        refine sO rfl rfl (oV rfl ?_)
        show Tri Try.prog 22 _ _ _ _
        refine Tri.has (l := [(0, _), (3, _), (7, _), (17, _)]) ⟨rfl, rfl, rfl, rfl, trivial⟩ ?_
        refine Tri.cond (t := false) rfl (fun h => Bool.noConfusion h) (fun _ => ?_)
        refine Tri.skip ?_
        show Tri Try.prog 22 _ _ _ _
        refine Tri.has (l := [(0, _), (3, _), (7, _), (17, _)]) ⟨rfl, rfl, rfl, rfl, trivial⟩ ?_
        refine Tri.region mixed eqsOk (eqs := eqs) ?_
        refine sO rfl rfl (oV rfl ?_)
        refine sO rfl rfl (oAdd (m := 1) rfl (by omega) ?_)
        refine sO rfl rfl (oV rfl ?_)
        refine ⟨101 - (n + 1), by omega, n + 1, rfl, by omega, by omega, ?_, ⟨rfl, rfl, trivial⟩, rfl⟩
        rw [line_at n hb12, if_neg (by rintro (h | h); (· exact b8n (n := 10) h13 (by omega) h); (· omega))] at he
        rw [← he, List.take_add_one, hb12]; simp
  ·
    show Tri Try.prog 22 _ _ _ _
    refine Tri.has (l := [(0, _), (3, _), (7, _)]) ⟨rfl, rfl, rfl, trivial⟩ ?_
    refine Tri.cond (t := false) rfl (fun h => Bool.noConfusion h) (fun _ => ?_)
    refine Tri.exit ?_
    show Tri Try.prog 22 _ _ _ _
    refine Tri.has (l := [(0, _), (3, _), (7, _)]) ⟨rfl, rfl, rfl, trivial⟩ ?_
    refine Tri.seq ?_
    refine Tri.region mixed eqsOk (eqs := eqs) ?_
    refine sO rfl rfl (oV rfl ?_)
    refine sO rfl rfl (oV rfl ?_)
    show Tri Try.prog 22 _ _ _ _
    refine Tri.has (l := [(0, _), (2, _), (3, _), (7, _)]) ⟨rfl, rfl, rfl, rfl, trivial⟩ ?_
    refine Tri.ret ?_
    refine ⟨trivial, _, rfl, ?_⟩
    have e : lineG 0 s = s := by
      rw [← he, List.take_of_length_le (by omega), List.drop_eq_nil_of_le (by omega)]; simp [lineG]
    rw [e]; exact ⟨rfl, rfl⟩
end Go.Proofs.Yteknebkgpehphaa
