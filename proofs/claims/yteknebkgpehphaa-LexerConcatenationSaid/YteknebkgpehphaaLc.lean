/-
  THE WALK of fullinglaw2.LexerConcatenation (printed by wip/tools/walk.py from wip/specs/lexC.py). Written in this session.
-/
import Derived.Test.YteknebkgpehphaaLb
namespace Go.Proofs.Yteknebkgpehphaa
open Go.Ea
set_option maxRecDepth 100000
set_option linter.unusedVariables false
set_option linter.unusedSimpArgs false

theorem cc_eq (u v : List UInt8) : u ++ [10] ++ v = u ++ 10 :: v := by simp
theorem cc1 {u v : List UInt8} (hu : u.length ≤ 570) (hv : v.length ≤ 570) (h : ¬ (scanS u).2.1 = 0) : (scanS (u ++ [10] ++ v)).1 = [] ∧ (scanS (u ++ [10] ++ v)).2 = (scanS u).2 := by
  rw [cc_eq, scan_concat (by omega) (by omega), if_neg h]; exact ⟨rfl, rfl⟩
theorem cc2 {u v : List UInt8} (hu : u.length ≤ 570) (hv : v.length ≤ 570) (h : (scanS u).2.1 = 0) (h2 : ¬ (scanS v).2.1 = 0) : (scanS (u ++ [10] ++ v)).1 = [] ∧ (scanS (u ++ [10] ++ v)).2.1 = (scanS v).2.1 ∧ (scanS (u ++ [10] ++ v)).2.2 = (scanS v).2.2 + (u.length + 1) := by
  rw [cc_eq, scan_concat (by omega) (by omega), if_pos h, if_neg h2]; exact ⟨rfl, rfl, rfl⟩
theorem cc3 {u v : List UInt8} (hu : u.length ≤ 570) (hv : v.length ≤ 570) (h : (scanS u).2.1 = 0) (h2 : (scanS v).2.1 = 0) : (scanS (u ++ [10] ++ v)).2.1 = 0 ∧ (scanS (u ++ [10] ++ v)).1 = (scanS u).1 ++ (scanS v).1.map (shift (u.length + 1)) := by
  rw [cc_eq, scan_concat (by omega) (by omega), if_pos h, if_pos h2]; exact ⟨rfl, rfl⟩

theorem pos_le {s : List UInt8} : ∀ (l : List Tok) (q : Nat), Chain s q l → ∀ t ∈ l, t.pos ≤ s.length
  | [], _, _, t, ht => by cases ht
  | a :: r, q, h, t, ht => by
    obtain ⟨_, _, h3, _, _, h6⟩ := h
    rcases List.mem_cons.1 ht with rfl | ht
    · omega
    · exact pos_le r _ h6 t ht

theorem concat_ok (l : List Int) (q : Option (Nat × Nat)) (m : List Int) (q2 : Option (Nat × Nat)) (H : Heap) (hl : RowR H (fun x => [AT.int .i64 x]) 1 l q) (hl2 : RowR H (fun x => [AT.int .i64 x]) 1 m q2) : Sim Try.prog 7 [at' (.slice q l.length), at' (.slice q2 m.length)] H (fun u G => u = at' (.bool true) ∧ True) := by
  have hlen := pcs_len l
  have hlen2 := pcs_len m
  refine Sim.of_tri Try.func7 rfl ?_
  show Tri Try.prog 156 _ _ _ _
  refine Tri.seq ?_
  refine Tri.region mixed eqsOk (eqs := eqs) ?_
  refine sO rfl rfl (oV rfl ?_)
  show Tri Try.prog 156 _ _ _ _
  refine Tri.has (l := [(0, _), (1, _), (4, _)]) ⟨rfl, rfl, rfl, trivial⟩ ?_
  refine Tri.seq ?_
  refine Tri.region mixed eqsOk (eqs := eqs) ?_
  refine sO rfl rfl (oV rfl ?_)
  refine sO rfl rfl (oF rfl (fnOk_of Try.func11 (by decide) rfl) (pieces_ok _ _ _ (by assumption)) ?_)
  refine sO rfl rfl (oV rfl ?_)
  refine sO rfl rfl (oF rfl (fnOk_of Try.func11 (by decide) rfl) (pieces_ok _ _ _ (by assumption)) ?_)
  refine sO rfl rfl (oV rfl ?_)
  refine sO rfl rfl (oV rfl ?_)
  show Tri Try.prog 156 _ _ _ _
  refine Tri.has (l := [(0, _), (1, _), (4, _), (5, _), (6, _)]) ⟨rfl, rfl, rfl, rfl, rfl, trivial⟩ ?_
  refine Tri.seq ?_
  refine Tri.region mixed eqsOk (eqs := eqs) ?_
  refine sO rfl rfl (oV rfl ?_)
  refine sO rfl rfl (oC rfl (fnOk_of Try.func9 (by decide) rfl) (Scan_ok _ _) ?_)
  rintro u G ⟨a, rfl, hr, hk⟩
  obtain ⟨p, rfl, hra⟩ := hr.r tokC_len
  refine sO rfl rfl (oV rfl ?_)
  refine sO rfl rfl (oV rfl ?_)
  refine sO rfl rfl (oV rfl ?_)
  refine sO rfl rfl (oAlloc (cs := [.int .i64 0, .int .i64 0]) rfl rfl ?_)
  refine sO rfl rfl (oV rfl ?_)
  refine sO rfl rfl (oStore (n := 2) (cs' := [_, _]) rfl rfl rfl (by repeat (first | assumption | exact Heap.push_new | exact Heap.set_newl (by first | (simp only [Heap.n_push, Heap.n_set]; omega) | exact Heap.get_lt (by assumption)) | refine Heap.push_old ?_ | refine Heap.set_old ?_ (by first | assumption | omega | (simp only [Heap.n_push, Heap.n_set]; omega)) (by first | (simp only [Heap.n_push, Heap.n_set]; omega) | exact Heap.get_lt (by assumption)))) rfl (Nat.le_of_ble_eq_true rfl) rfl rfl ?_)
  show Tri Try.prog 156 _ _ _ _
  refine Tri.has (l := [(0, _), (1, _), (4, _), (5, _), (6, _), (7, _), (8, _)]) ⟨rfl, rfl, rfl, rfl, rfl, rfl, rfl, trivial⟩ ?_
  refine Tri.seq ?_
  refine Tri.region mixed eqsOk (eqs := eqs) ?_
  refine sO rfl rfl (oV rfl ?_)
  refine sO rfl rfl (oC rfl (fnOk_of Try.func9 (by decide) rfl) (Scan_ok _ _) ?_)
  rintro u G2 ⟨a, rfl, hr, hk2⟩
  obtain ⟨p2, rfl, hrb⟩ := hr.r tokC_len
  have hn2 := hk2.n
  simp only [Heap.n_push, Heap.n_set] at hn2
  have g1 := hk2.get (Heap.set_newl (H := G.push _) (i := G.n) (by simp)) rfl
  refine sO rfl rfl (oV rfl ?_)
  refine sO rfl rfl (oV rfl ?_)
  refine sO rfl rfl (oV rfl ?_)
  refine sO rfl rfl (oAlloc (cs := [.int .i64 0, .int .i64 0]) rfl rfl ?_)
  refine sO rfl rfl (oV rfl ?_)
  refine sO rfl rfl (oStore (n := 2) (cs' := [_, _]) rfl rfl rfl (by repeat (first | assumption | exact Heap.push_new | exact Heap.set_newl (by first | (simp only [Heap.n_push, Heap.n_set]; omega) | exact Heap.get_lt (by assumption)) | refine Heap.push_old ?_ | refine Heap.set_old ?_ (by first | assumption | omega | (simp only [Heap.n_push, Heap.n_set]; omega)) (by first | (simp only [Heap.n_push, Heap.n_set]; omega) | exact Heap.get_lt (by assumption)))) rfl (Nat.le_of_ble_eq_true rfl) rfl rfl ?_)
  show Tri Try.prog 156 _ _ _ _
  refine Tri.has (l := [(0, _), (1, _), (4, _), (5, _), (6, _), (7, _), (8, _), (9, _), (10, _)]) ⟨rfl, rfl, rfl, rfl, rfl, rfl, rfl, rfl, rfl, trivial⟩ ?_
  refine Tri.seq ?_
  refine Tri.region mixed eqsOk (eqs := eqs) ?_
  refine sO rfl rfl (oV rfl ?_)
  refine sO rfl rfl (oCat rfl rfl (by (show (pcs l).length + 1 ≤ _); omega) ?_)
  refine sO rfl rfl (oV rfl ?_)
  refine sO rfl rfl (oCat rfl rfl (by rw [List.length_append]; (show (pcs l).length + 1 + (pcs m).length ≤ _); omega) ?_)
  refine sO rfl rfl (oC rfl (fnOk_of Try.func9 (by decide) rfl) (Scan_ok _ _) ?_)
  rintro u G3 ⟨a, rfl, hr, hk3⟩
  obtain ⟨p3, rfl, hrc⟩ := hr.r tokC_len
  have hn3 := hk3.n
  simp only [Heap.n_push, Heap.n_set] at hn3
  have g1b := hk3.get (Heap.set_old (Heap.push_old g1) (by omega) (by simp)) rfl
  have g2 := hk3.get (Heap.set_newl (H := G2.push _) (i := G2.n) (by simp)) rfl
  refine sO rfl rfl (oV rfl ?_)
  refine sO rfl rfl (oV rfl ?_)
  refine sO rfl rfl (oV rfl ?_)
  refine sO rfl rfl (oAlloc (cs := [.int .i64 0, .int .i64 0]) rfl rfl ?_)
  refine sO rfl rfl (oV rfl ?_)
  refine sO rfl rfl (oStore (n := 2) (cs' := [_, _]) rfl rfl rfl (by repeat (first | assumption | exact Heap.push_new | exact Heap.set_newl (by first | (simp only [Heap.n_push, Heap.n_set]; omega) | exact Heap.get_lt (by assumption)) | refine Heap.push_old ?_ | refine Heap.set_old ?_ (by first | assumption | omega | (simp only [Heap.n_push, Heap.n_set]; omega)) (by first | (simp only [Heap.n_push, Heap.n_set]; omega) | exact Heap.get_lt (by assumption)))) rfl (Nat.le_of_ble_eq_true rfl) rfl rfl ?_)
  show Tri Try.prog 156 _ _ _ _
  refine Tri.has (l := [(0, _), (1, _), (4, _), (5, _), (6, _), (7, _), (8, _), (9, _), (10, _), (11, _), (12, _)]) ⟨rfl, rfl, rfl, rfl, rfl, rfl, rfl, rfl, rfl, rfl, rfl, trivial⟩ ?_
  refine Tri.seq ?_
  refine Tri.seq ?_
  refine Tri.region mixed eqsOk (eqs := eqs) ?_
  refine sO rfl rfl (oW (at' (.ptr (some (_, 0)))) rfl rfl ?_)
  refine sO rfl rfl (oLoad (x := .at _) rfl (by repeat (first | assumption | exact Heap.push_new | exact Heap.set_newl (by first | (simp only [Heap.n_push, Heap.n_set]; omega) | exact Heap.get_lt (by assumption)) | refine Heap.push_old ?_ | refine Heap.set_old ?_ (by first | assumption | omega | (simp only [Heap.n_push, Heap.n_set]; omega)) (by first | (simp only [Heap.n_push, Heap.n_set]; omega) | exact Heap.get_lt (by assumption)))) rfl ?_)
  refine sO rfl rfl (oNE rfl (fun h39 => ?_) (fun h39 => ?_))
  ·
    show Tri Try.prog 156 _ _ _ _
    refine Tri.has (l := [(0, _), (1, _), (4, _), (5, _), (6, _), (7, _), (8, _), (9, _), (10, _), (11, _), (12, _), (39, _)]) ⟨rfl, rfl, rfl, rfl, rfl, rfl, rfl, rfl, rfl, rfl, rfl, rfl, trivial⟩ ?_
    refine Tri.cond (t := true) rfl (fun _ => ?_) (fun h => Bool.noConfusion h)
    refine Tri.seq ?_
    refine Tri.region mixed eqsOk (eqs := eqs) ?_
    refine sO rfl rfl (oLoad (x := .agg [_, _]) rfl (by repeat (first | assumption | exact Heap.push_new | exact Heap.set_newl (by first | (simp only [Heap.n_push, Heap.n_set]; omega) | exact Heap.get_lt (by assumption)) | refine Heap.push_old ?_ | refine Heap.set_old ?_ (by first | assumption | omega | (simp only [Heap.n_push, Heap.n_set]; omega)) (by first | (simp only [Heap.n_push, Heap.n_set]; omega) | exact Heap.get_lt (by assumption)))) rfl ?_)
    refine sO rfl rfl (oLoad (x := .agg [_, _]) rfl (by repeat (first | assumption | exact Heap.push_new | exact Heap.set_newl (by first | (simp only [Heap.n_push, Heap.n_set]; omega) | exact Heap.get_lt (by assumption)) | refine Heap.push_old ?_ | refine Heap.set_old ?_ (by first | assumption | omega | (simp only [Heap.n_push, Heap.n_set]; omega)) (by first | (simp only [Heap.n_push, Heap.n_set]; omega) | exact Heap.get_lt (by assumption)))) rfl ?_)
    refine sO rfl rfl (oB rfl (fun h42 => ?_) (fun h42 => by rw [(cc1 hlen hlen2 (by omega)).2] at h42; simp at h42))
    refine sO rfl rfl (oV rfl ?_)
    refine sO rfl rfl (oV rfl ?_)
    refine sO rfl rfl (oV rfl ?_)
    refine sO rfl rfl (oE rfl (fun h46 => ?_) (fun h46 => (h46 (by rw [(cc1 hlen hlen2 (by omega)).1]; rfl)).elim))
    refine sO rfl rfl (oV rfl ?_)
    refine sO rfl rfl (oV rfl ?_)
    refine sO rfl rfl (oF rfl (fnOk_of Try.func3 (by decide) rfl) (examples_ok _) ?_)
    refine sO rfl rfl (oV rfl ?_)
    refine sO rfl rfl (oV rfl ?_)
    show Tri Try.prog 156 _ _ _ _
    refine Tri.has (l := [(0, _), (1, _), (4, _), (5, _), (6, _), (7, _), (8, _), (9, _), (10, _), (11, _), (12, _), (39, _)]) ⟨rfl, rfl, rfl, rfl, rfl, rfl, rfl, rfl, rfl, rfl, rfl, rfl, trivial⟩ ?_
    refine Tri.ret ?_
    refine ⟨trivial, _, rfl, ?_⟩
    exact ⟨rfl, trivial⟩
  ·
    show Tri Try.prog 156 _ _ _ _
    refine Tri.has (l := [(0, _), (1, _), (4, _), (5, _), (6, _), (7, _), (8, _), (9, _), (10, _), (11, _), (12, _), (39, _)]) ⟨rfl, rfl, rfl, rfl, rfl, rfl, rfl, rfl, rfl, rfl, rfl, rfl, trivial⟩ ?_
    refine Tri.cond (t := false) rfl (fun h => Bool.noConfusion h) (fun _ => ?_)
    refine Tri.skip ?_
    show Tri Try.prog 156 _ _ _ _
    refine Tri.has (l := [(0, _), (1, _), (4, _), (5, _), (6, _), (7, _), (8, _), (9, _), (10, _), (11, _), (12, _), (39, _)]) ⟨rfl, rfl, rfl, rfl, rfl, rfl, rfl, rfl, rfl, rfl, rfl, rfl, trivial⟩ ?_
    refine Tri.seq ?_
    refine Tri.seq ?_
    refine Tri.region mixed eqsOk (eqs := eqs) ?_
    refine sO rfl rfl (oW (at' (.ptr (some (_, 0)))) rfl rfl ?_)
    refine sO rfl rfl (oLoad (x := .at _) rfl (by repeat (first | assumption | exact Heap.push_new | exact Heap.set_newl (by first | (simp only [Heap.n_push, Heap.n_set]; omega) | exact Heap.get_lt (by assumption)) | refine Heap.push_old ?_ | refine Heap.set_old ?_ (by first | assumption | omega | (simp only [Heap.n_push, Heap.n_set]; omega)) (by first | (simp only [Heap.n_push, Heap.n_set]; omega) | exact Heap.get_lt (by assumption)))) rfl ?_)
    refine sO rfl rfl (oNE rfl (fun h53 => ?_) (fun h53 => ?_))
    ·
      show Tri Try.prog 156 _ _ _ _
      refine Tri.has (l := [(0, _), (1, _), (4, _), (5, _), (6, _), (7, _), (8, _), (9, _), (10, _), (11, _), (12, _), (39, _), (53, _)]) ⟨rfl, rfl, rfl, rfl, rfl, rfl, rfl, rfl, rfl, rfl, rfl, rfl, rfl, trivial⟩ ?_
      refine Tri.cond (t := true) rfl (fun _ => ?_) (fun h => Bool.noConfusion h)
      refine Tri.seq ?_
      refine Tri.region mixed eqsOk (eqs := eqs) ?_
      refine sO rfl rfl (oW (at' (.ptr (some (_, 0)))) rfl rfl ?_)
      refine sO rfl rfl (oLoad (x := .at _) rfl (by repeat (first | assumption | exact Heap.push_new | exact Heap.set_newl (by first | (simp only [Heap.n_push, Heap.n_set]; omega) | exact Heap.get_lt (by assumption)) | refine Heap.push_old ?_ | refine Heap.set_old ?_ (by first | assumption | omega | (simp only [Heap.n_push, Heap.n_set]; omega)) (by first | (simp only [Heap.n_push, Heap.n_set]; omega) | exact Heap.get_lt (by assumption)))) rfl ?_)
      refine sO rfl rfl (oW (at' (.ptr (some (_, 0)))) rfl rfl ?_)
      refine sO rfl rfl (oLoad (x := .at _) rfl (by repeat (first | assumption | exact Heap.push_new | exact Heap.set_newl (by first | (simp only [Heap.n_push, Heap.n_set]; omega) | exact Heap.get_lt (by assumption)) | refine Heap.push_old ?_ | refine Heap.set_old ?_ (by first | assumption | omega | (simp only [Heap.n_push, Heap.n_set]; omega)) (by first | (simp only [Heap.n_push, Heap.n_set]; omega) | exact Heap.get_lt (by assumption)))) rfl ?_)
      refine sO rfl rfl (oE rfl (fun h58 => ?_) (fun h58 => (h58 (by rw [(cc2 hlen hlen2 (by omega) (by omega)).2.1])).elim))
      refine sO rfl rfl (oV rfl ?_)
      refine sO rfl rfl (oW (at' (.ptr (some (_, 1)))) rfl rfl ?_)
      refine sO rfl rfl (oLoad (x := .at _) rfl (by repeat (first | assumption | exact Heap.push_new | exact Heap.set_newl (by first | (simp only [Heap.n_push, Heap.n_set]; omega) | exact Heap.get_lt (by assumption)) | refine Heap.push_old ?_ | refine Heap.set_old ?_ (by first | assumption | omega | (simp only [Heap.n_push, Heap.n_set]; omega)) (by first | (simp only [Heap.n_push, Heap.n_set]; omega) | exact Heap.get_lt (by assumption)))) rfl ?_)
      refine sO rfl rfl (oW (at' (.ptr (some (_, 1)))) rfl rfl ?_)
      refine sO rfl rfl (oLoad (x := .at _) rfl (by repeat (first | assumption | exact Heap.push_new | exact Heap.set_newl (by first | (simp only [Heap.n_push, Heap.n_set]; omega) | exact Heap.get_lt (by assumption)) | refine Heap.push_old ?_ | refine Heap.set_old ?_ (by first | assumption | omega | (simp only [Heap.n_push, Heap.n_set]; omega)) (by first | (simp only [Heap.n_push, Heap.n_set]; omega) | exact Heap.get_lt (by assumption)))) rfl ?_)
      refine sO rfl rfl (oV rfl ?_)
      refine sO rfl rfl (oV rfl ?_)
      have hse := (scanS_err (s := pcs m) (by omega) (by omega)).2
      refine sO rfl rfl (oAdd rfl (by omega) ?_)
      refine sO rfl rfl (oAdd (m := 1) rfl (by omega) ?_)
      refine sO rfl rfl (oE rfl (fun h68 => ?_) (fun h68 => (h68 (by rw [(cc2 hlen hlen2 (by omega) (by omega)).2.2]; omega)).elim))
      refine sO rfl rfl (oV rfl ?_)
      refine sO rfl rfl (oV rfl ?_)
      refine sO rfl rfl (oV rfl ?_)
      refine sO rfl rfl (oV rfl ?_)
      refine sO rfl rfl (oE rfl (fun h73 => ?_) (fun h73 => (h73 (by rw [(cc2 hlen hlen2 (by omega) (by omega)).1]; rfl)).elim))
      refine sO rfl rfl (oV rfl ?_)
      refine sO rfl rfl (oV rfl ?_)
      refine sO rfl rfl (oF rfl (fnOk_of Try.func3 (by decide) rfl) (examples_ok _) ?_)
      refine sO rfl rfl (oV rfl ?_)
      refine sO rfl rfl (oV rfl ?_)
      show Tri Try.prog 156 _ _ _ _
      refine Tri.has (l := [(0, _), (1, _), (4, _), (5, _), (6, _), (7, _), (8, _), (9, _), (10, _), (11, _), (12, _), (39, _), (53, _)]) ⟨rfl, rfl, rfl, rfl, rfl, rfl, rfl, rfl, rfl, rfl, rfl, rfl, rfl, trivial⟩ ?_
      refine Tri.ret ?_
      refine ⟨trivial, _, rfl, ?_⟩
      exact ⟨rfl, trivial⟩
    ·
      show Tri Try.prog 156 _ _ _ _
      refine Tri.has (l := [(0, _), (1, _), (4, _), (5, _), (6, _), (7, _), (8, _), (9, _), (10, _), (11, _), (12, _), (39, _), (53, _)]) ⟨rfl, rfl, rfl, rfl, rfl, rfl, rfl, rfl, rfl, rfl, rfl, rfl, rfl, trivial⟩ ?_
      refine Tri.cond (t := false) rfl (fun h => Bool.noConfusion h) (fun _ => ?_)
      refine Tri.skip ?_
      show Tri Try.prog 156 _ _ _ _
      refine Tri.has (l := [(0, _), (1, _), (4, _), (5, _), (6, _), (7, _), (8, _), (9, _), (10, _), (11, _), (12, _), (39, _), (53, _)]) ⟨rfl, rfl, rfl, rfl, rfl, rfl, rfl, rfl, rfl, rfl, rfl, rfl, rfl, trivial⟩ ?_
      refine Tri.seq ?_
      refine Tri.seq ?_
      refine Tri.region mixed eqsOk (eqs := eqs) ?_
      refine sO rfl rfl (oW (at' (.ptr (some (_, 0)))) rfl rfl ?_)
      refine sO rfl rfl (oLoad (x := .at _) rfl (by repeat (first | assumption | exact Heap.push_new | exact Heap.set_newl (by first | (simp only [Heap.n_push, Heap.n_set]; omega) | exact Heap.get_lt (by assumption)) | refine Heap.push_old ?_ | refine Heap.set_old ?_ (by first | assumption | omega | (simp only [Heap.n_push, Heap.n_set]; omega)) (by first | (simp only [Heap.n_push, Heap.n_set]; omega) | exact Heap.get_lt (by assumption)))) rfl ?_)
      refine sO rfl rfl (oNE rfl (fun h80 => (h80 (by rw [(cc3 hlen hlen2 (by omega) (by omega)).1]; rfl)).elim) (fun h80 => ?_))
      refine sO rfl rfl (oV rfl ?_)
      refine sO rfl rfl (oV rfl ?_)
      refine sO rfl rfl (oV rfl ?_)
      refine sO rfl rfl (oV rfl ?_)
      refine sO rfl rfl (oV rfl ?_)
      refine sO rfl rfl (oV rfl ?_)
      refine sO rfl rfl (oV rfl ?_)
      have hta := toks_le (s := pcs l) (by omega)
      have htb := toks_le (s := pcs m) (by omega)
      refine sO rfl rfl (oAdd rfl (by omega) ?_)
      refine sO rfl rfl (oNE rfl (fun h89 => (h89 (by rw [(cc3 hlen hlen2 (by omega) (by omega)).2, List.length_append, List.length_map])).elim) (fun h89 => ?_))
      refine sO rfl rfl (oV rfl ?_)
      show Tri Try.prog 156 _ _ _ _
      refine Tri.has (l := [(0, _), (1, _), (4, _), (5, _), (6, _), (7, _), (8, _), (9, _), (10, _), (11, _), (12, _), (39, _), (53, _), (90, _)]) ⟨rfl, rfl, rfl, rfl, rfl, rfl, rfl, rfl, rfl, rfl, rfl, rfl, rfl, rfl, trivial⟩ ?_
      refine Tri.cond (t := false) rfl (fun h => Bool.noConfusion h) (fun _ => ?_)
      refine Tri.skip ?_
      show Tri Try.prog 156 _ _ _ _
      refine Tri.has (l := [(0, _), (1, _), (4, _), (5, _), (6, _), (7, _), (8, _), (9, _), (10, _), (11, _), (12, _), (39, _), (53, _), (90, _)]) ⟨rfl, rfl, rfl, rfl, rfl, rfl, rfl, rfl, rfl, rfl, rfl, rfl, rfl, rfl, trivial⟩ ?_
      refine Tri.seq ?_
      refine Tri.seq ?_
      refine Tri.region mixed eqsOk (eqs := eqs) ?_
      refine sO rfl rfl (oV rfl ?_)
      refine sO rfl rfl (oV rfl ?_)
      refine sO rfl rfl (oV rfl ?_)
      show Tri Try.prog 156 _ _ _ _
      refine Tri.has (l := [(0, _), (1, _), (4, _), (5, _), (6, _), (7, _), (8, _), (9, _), (10, _), (11, _), (12, _), (39, _), (53, _), (90, _), (92, _), (93, _)]) ⟨rfl, rfl, rfl, rfl, rfl, rfl, rfl, rfl, rfl, rfl, rfl, rfl, rfl, rfl, rfl, rfl, trivial⟩ ?_
      refine Tri.block ?_
      refine Tri.loop (fun k lk1 H1 => ∃ n : Nat, k = (scanS (pcs l ++ [10] ++ pcs m)).1.length - n ∧ n ≤ (scanS (pcs l ++ [10] ++ pcs m)).1.length ∧ Has lk1 [(5, at' (.str (pcs l))), (7, at' (.slice p (scanS (pcs l)).1.length)), (9, at' (.slice p2 (scanS (pcs m)).1.length)), (11, at' (.slice p3 (scanS (pcs l ++ [10] ++ pcs m)).1.length)), (92, at' (.int .i64 (scanS (pcs l ++ [10] ++ pcs m)).1.length)), (93, at' (.int .i64 n))] ∧ RowR H1 tokC 3 (scanS (pcs l)).1 p ∧ RowR H1 tokC 3 (scanS (pcs m)).1 p2 ∧ RowR H1 tokC 3 (scanS (pcs l ++ [10] ++ pcs m)).1 p3) ((scanS (pcs l ++ [10] ++ pcs m)).1.length) (⟨0, rfl, by omega, ⟨rfl, rfl, rfl, rfl, rfl, rfl, trivial⟩, ((hra.kp (by repeat (first | assumption | exact Kp.refl | refine Kp.push ?_ | refine Kp.set ?_ (by first | (simp only [Heap.n_push, Heap.n_set]; omega) | exact Heap.get_lt (by assumption)) (.inr (by first | omega | (simp only [Heap.n_push, Heap.n_set]; omega)))))).kp hk2).kp (by repeat (first | assumption | exact Kp.refl | refine Kp.push ?_ | refine Kp.set ?_ (by first | (simp only [Heap.n_push, Heap.n_set]; omega) | exact Heap.get_lt (by assumption)) (.inr (by first | omega | (simp only [Heap.n_push, Heap.n_set]; omega))))) |>.kp hk3 |>.kp (by repeat (first | assumption | exact Kp.refl | refine Kp.push ?_ | refine Kp.set ?_ (by first | (simp only [Heap.n_push, Heap.n_set]; omega) | exact Heap.get_lt (by assumption)) (.inr (by first | omega | (simp only [Heap.n_push, Heap.n_set]; omega))))), (hrb.kp (by repeat (first | assumption | exact Kp.refl | refine Kp.push ?_ | refine Kp.set ?_ (by first | (simp only [Heap.n_push, Heap.n_set]; omega) | exact Heap.get_lt (by assumption)) (.inr (by first | omega | (simp only [Heap.n_push, Heap.n_set]; omega)))))).kp hk3 |>.kp (by repeat (first | assumption | exact Kp.refl | refine Kp.push ?_ | refine Kp.set ?_ (by first | (simp only [Heap.n_push, Heap.n_set]; omega) | exact Heap.get_lt (by assumption)) (.inr (by first | omega | (simp only [Heap.n_push, Heap.n_set]; omega))))), hrc.kp (by repeat (first | assumption | exact Kp.refl | refine Kp.push ?_ | refine Kp.set ?_ (by first | (simp only [Heap.n_push, Heap.n_set]; omega) | exact Heap.get_lt (by assumption)) (.inr (by first | omega | (simp only [Heap.n_push, Heap.n_set]; omega)))))⟩) ?_
      rintro k lk1 H1 ⟨n, hk4, hn, hh, hra1, hrb1, hrc1⟩
      refine Tri.has hh ?_
      have hok := cc3 (u := pcs l) (v := pcs m) hlen hlen2 (by omega) (by omega)
      have hpb := pos_le _ 0 (scanS_chain (s := pcs m) (by omega))
      have hta := toks_le (s := pcs l) (by omega)
      have htb := toks_le (s := pcs m) (by omega)
      have htc : (scanS (pcs l ++ [10] ++ pcs m)).1.length = (scanS (pcs l)).1.length + (scanS (pcs m)).1.length := by rw [hok.2, List.length_append, List.length_map]
      refine Tri.seq ?_
      refine Tri.region mixed eqsOk (eqs := eqs) ?_
      refine sO rfl rfl (oP rfl (fun h94 => ?_) (fun h94 => ?_))
      ·
        show Tri Try.prog 156 _ _ _ _
        refine Tri.has (l := [(5, _), (7, _), (9, _), (11, _), (92, _), (93, _), (94, _)]) ⟨rfl, rfl, rfl, rfl, rfl, rfl, rfl, trivial⟩ ?_
        refine Tri.seq ?_
        refine Tri.cond (t := true) rfl (fun _ => ?_) (fun h => Bool.noConfusion h)
        refine Tri.skip ?_
        show Tri Try.prog 156 _ _ _ _
        refine Tri.has (l := [(5, _), (7, _), (9, _), (11, _), (92, _), (93, _), (94, _)]) ⟨rfl, rfl, rfl, rfl, rfl, rfl, rfl, trivial⟩ ?_
        refine Tri.seq ?_
        refine Tri.block ?_
        refine Tri.seq ?_
        refine Tri.region mixed eqsOk (eqs := eqs) ?_
        refine sO rfl rfl (oV rfl ?_)
        refine sO rfl rfl (oV rfl ?_)
        show Tri Try.prog 156 _ _ _ _
        refine Tri.has (l := [(5, _), (7, _), (9, _), (11, _), (13, _), (92, _), (93, _), (94, _)]) ⟨rfl, rfl, rfl, rfl, rfl, rfl, rfl, rfl, trivial⟩ ?_
        refine Tri.seq ?_
        refine Tri.seq ?_
        refine Tri.drawn1 mixed eqsOk (eqs := eqs) ⟨[0, 0, 2, 7, 15, 31, 31, 127, 255, 31, 31, 1567, 3615, 8191, 16383], [0, 0, 0, 0, 0, 0, 0, 0, 0, 0, 0, 0, 0, 0, 0], 1, [0, 1, 2, 3, 4, 5, 6, 7, 8, 9, 10, 11, 12, 13, 14]⟩ (by decide +kernel) rfl ?_
        refine dL rfl rfl rfl rfl (oV rfl ?_)
        refine dL rfl rfl rfl rfl (oV rfl ?_)
        refine dR0 rfl rfl rfl rfl rfl ?_
        refine dL rfl rfl rfl rfl (oP rfl (fun h99 => ?_) (fun h99 => ?_))
        ·
          refine dL rfl rfl rfl rfl (oV rfl ?_)
          refine dL rfl rfl rfl rfl (oV rfl ?_)
          refine dL rfl rfl rfl rfl (oV rfl ?_)
          obtain ⟨x, hx⟩ : ∃ x, (scanS (pcs l)).1[n]? = some x := ⟨_, List.getElem?_eq_getElem (by omega)⟩
          obtain ⟨ida, oa, Ta, ka, ca, rfl, hga, hlea, hca⟩ := hra1.at tokC_len hx
          have hz : (scanS (pcs l ++ [10] ++ pcs m)).1[n]? = some x := by rw [hok.2, List.getElem?_append_left (by omega)]; exact hx
          obtain ⟨idc, oc, Tc, kc, cc, rfl, hgc, hlec, hcc⟩ := hrc1.at tokC_len hz
          refine dL rfl rfl rfl rfl (oIA (z := 3) rfl rfl rfl rfl (by omega) ?_)
          refine dR0 rfl rfl rfl rfl (op_load_at (x := .agg (tokC x)) rfl (by repeat (first | assumption | exact Heap.push_new | exact Heap.set_newl (by first | (simp only [Heap.n_push, Heap.n_set]; omega) | exact Heap.get_lt (by assumption)) | refine Heap.push_old ?_ | refine Heap.set_old ?_ (by first | assumption | omega | (simp only [Heap.n_push, Heap.n_set]; omega)) (by first | (simp only [Heap.n_push, Heap.n_set]; omega) | exact Heap.get_lt (by assumption)))) (part_all hcc hlec rfl rfl rfl)) ?_
          refine dL rfl rfl rfl rfl (oV rfl ?_)
          refine dL rfl rfl rfl rfl (oV rfl ?_)
          refine dL rfl rfl rfl rfl (oIA (z := 3) rfl rfl rfl rfl (by omega) ?_)
          refine dR0 rfl rfl rfl rfl (op_load_at (x := .agg (tokC x)) rfl (by repeat (first | assumption | exact Heap.push_new | exact Heap.set_newl (by first | (simp only [Heap.n_push, Heap.n_set]; omega) | exact Heap.get_lt (by assumption)) | refine Heap.push_old ?_ | refine Heap.set_old ?_ (by first | assumption | omega | (simp only [Heap.n_push, Heap.n_set]; omega)) (by first | (simp only [Heap.n_push, Heap.n_set]; omega) | exact Heap.get_lt (by assumption)))) (part_all hca hlea rfl rfl rfl)) ?_
          refine dL rfl rfl rfl rfl (oB rfl (fun h109 => by simp [eqS_eq] at h109) (fun h109 => ?_))
          refine dL rfl rfl rfl rfl (oV rfl ?_)
          refine dE0 ?_
          show Tri Try.prog 156 _ _ _ _
          refine Tri.has (l := [(5, _), (7, _), (9, _), (11, _), (13, _), (92, _), (93, _), (94, _), (110, _)]) ⟨rfl, rfl, rfl, rfl, rfl, rfl, rfl, rfl, rfl, trivial⟩ ?_
          refine Tri.cond (t := false) rfl (fun h => Bool.noConfusion h) (fun _ => ?_)
          refine Tri.skip ?_
          show Tri Try.prog 156 _ _ _ _
          refine Tri.has (l := [(5, _), (7, _), (9, _), (11, _), (13, _), (92, _), (93, _), (94, _), (110, _)]) ⟨rfl, rfl, rfl, rfl, rfl, rfl, rfl, rfl, rfl, trivial⟩ ?_
          refine Tri.seq ?_
          refine Tri.region mixed eqsOk (eqs := eqs) ?_
          refine sO rfl rfl (oV rfl ?_)
          refine sO rfl rfl (oV rfl ?_)
          refine sO rfl rfl (oV rfl ?_)
          refine sO rfl rfl (oP rfl (fun h114 => absurd h114 (by omega)) (fun h114 => ?_))
          show Tri Try.prog 156 _ _ _ _
          refine Tri.has (l := [(5, _), (7, _), (9, _), (11, _), (13, _), (92, _), (93, _), (94, _), (110, _), (114, _)]) ⟨rfl, rfl, rfl, rfl, rfl, rfl, rfl, rfl, rfl, rfl, trivial⟩ ?_
          refine Tri.cond (t := false) rfl (fun h => Bool.noConfusion h) (fun _ => ?_)
          refine Tri.skip ?_
          show Tri Try.prog 156 _ _ _ _
          refine Tri.has (l := [(5, _), (7, _), (9, _), (11, _), (13, _), (92, _), (93, _), (94, _), (110, _), (114, _)]) ⟨rfl, rfl, rfl, rfl, rfl, rfl, rfl, rfl, rfl, rfl, trivial⟩ ?_
          refine Tri.region mixed eqsOk (eqs := eqs) ?_
          refine sO rfl rfl (oAdd (m := 1) rfl (by omega) ?_)
          refine sO rfl rfl (oV rfl ?_)
          refine ⟨(scanS (pcs l ++ [10] ++ pcs m)).1.length - (n + 1), by omega, n + 1, rfl, by omega, ⟨rfl, rfl, rfl, rfl, rfl, rfl, trivial⟩, hra1.kp (by repeat (first | assumption | exact Kp.refl | refine Kp.push ?_ | refine Kp.set ?_ (by first | (simp only [Heap.n_push, Heap.n_set]; omega) | exact Heap.get_lt (by assumption)) (.inr (by first | omega | (simp only [Heap.n_push, Heap.n_set]; omega))))), hrb1.kp (by repeat (first | assumption | exact Kp.refl | refine Kp.push ?_ | refine Kp.set ?_ (by first | (simp only [Heap.n_push, Heap.n_set]; omega) | exact Heap.get_lt (by assumption)) (.inr (by first | omega | (simp only [Heap.n_push, Heap.n_set]; omega))))), hrc1.kp (by repeat (first | assumption | exact Kp.refl | refine Kp.push ?_ | refine Kp.set ?_ (by first | (simp only [Heap.n_push, Heap.n_set]; omega) | exact Heap.get_lt (by assumption)) (.inr (by first | omega | (simp only [Heap.n_push, Heap.n_set]; omega)))))⟩
        ·
          refine dL rfl rfl rfl rfl (oV rfl ?_)
          refine dN rfl rfl rfl ?_
          refine dN rfl rfl rfl ?_
          refine dN rfl rfl rfl ?_
          refine dN rfl rfl rfl ?_
          refine dN rfl rfl rfl ?_
          refine dN rfl rfl rfl ?_
          refine dN rfl rfl rfl ?_
          refine dN rfl rfl rfl ?_
          refine dN rfl rfl rfl ?_
          refine dL rfl rfl rfl rfl (oV rfl ?_)
          refine dE0 ?_
          show Tri Try.prog 156 _ _ _ _
          refine Tri.has (l := [(5, _), (7, _), (9, _), (11, _), (13, _), (92, _), (93, _), (94, _), (110, _)]) ⟨rfl, rfl, rfl, rfl, rfl, rfl, rfl, rfl, rfl, trivial⟩ ?_
          refine Tri.cond (t := false) rfl (fun h => Bool.noConfusion h) (fun _ => ?_)
          refine Tri.skip ?_
          show Tri Try.prog 156 _ _ _ _
          refine Tri.has (l := [(5, _), (7, _), (9, _), (11, _), (13, _), (92, _), (93, _), (94, _), (110, _)]) ⟨rfl, rfl, rfl, rfl, rfl, rfl, rfl, rfl, rfl, trivial⟩ ?_
          refine Tri.seq ?_
          refine Tri.region mixed eqsOk (eqs := eqs) ?_
          refine sO rfl rfl (oV rfl ?_)
          refine sO rfl rfl (oV rfl ?_)
          refine sO rfl rfl (oV rfl ?_)
          refine sO rfl rfl (oP rfl (fun h114 => ?_) (fun h114 => absurd (by omega) h114))
          show Tri Try.prog 156 _ _ _ _
          refine Tri.has (l := [(5, _), (7, _), (9, _), (11, _), (13, _), (92, _), (93, _), (94, _), (110, _), (114, _)]) ⟨rfl, rfl, rfl, rfl, rfl, rfl, rfl, rfl, rfl, rfl, trivial⟩ ?_
          refine Tri.cond (t := true) rfl (fun _ => ?_) (fun h => Bool.noConfusion h)
          refine Tri.seq ?_
          refine Tri.region mixed eqsOk (eqs := eqs) ?_
          refine sO rfl rfl (oV rfl ?_)
          refine sO rfl rfl (oV rfl ?_)
          refine sO rfl rfl (oV rfl ?_)
          refine sO rfl rfl (oV rfl ?_)
          refine sO rfl rfl (oSub rfl (by omega) (by omega) ?_)
          obtain ⟨y, hy⟩ : ∃ y, (scanS (pcs m)).1[n - (scanS (pcs l)).1.length]? = some y := ⟨_, List.getElem?_eq_getElem (by omega)⟩
          obtain ⟨idb, ob, Tb, kb, cb, rfl, hgb, hleb, hcb⟩ := hrb1.at tokC_len hy
          have hz : (scanS (pcs l ++ [10] ++ pcs m)).1[n]? = some (shift ((pcs l).length + 1) y) := by rw [hok.2, List.getElem?_append_right (by omega), List.getElem?_map, hy]; rfl
          obtain ⟨idc, oc, Tc, kc, cc, rfl, hgc, hlec, hcc⟩ := hrc1.at tokC_len hz
          have hltc := Heap.get_lt hgc
          have hpos := hpb _ (List.mem_of_getElem? hy)
          refine sO rfl rfl (oIA (z := 3) rfl rfl rfl rfl (by omega) ?_)
          refine sO rfl rfl (oLoad (x := .agg (tokC y)) rfl (by repeat (first | assumption | exact Heap.push_new | exact Heap.set_newl (by first | (simp only [Heap.n_push, Heap.n_set]; omega) | exact Heap.get_lt (by assumption)) | refine Heap.push_old ?_ | refine Heap.set_old ?_ (by first | assumption | omega | (simp only [Heap.n_push, Heap.n_set]; omega)) (by first | (simp only [Heap.n_push, Heap.n_set]; omega) | exact Heap.get_lt (by assumption)))) (part_all hcb hleb rfl rfl rfl) ?_)
          refine sO rfl rfl (oAlloc (cs := [.int .i64 0, .str [], .int .i64 0]) rfl rfl ?_)
          refine sO rfl rfl (oStore (n := 3) (cs' := [_, _, _]) rfl rfl rfl (by repeat (first | assumption | exact Heap.push_new | exact Heap.set_newl (by first | (simp only [Heap.n_push, Heap.n_set]; omega) | exact Heap.get_lt (by assumption)) | refine Heap.push_old ?_ | refine Heap.set_old ?_ (by first | assumption | omega | (simp only [Heap.n_push, Heap.n_set]; omega)) (by first | (simp only [Heap.n_push, Heap.n_set]; omega) | exact Heap.get_lt (by assumption)))) rfl (Nat.le_of_ble_eq_true rfl) rfl rfl ?_)
          show Tri Try.prog 156 _ _ _ _
          refine Tri.has (l := [(5, _), (7, _), (9, _), (11, _), (13, _), (14, _), (92, _), (93, _), (94, _), (110, _), (114, _)]) ⟨rfl, rfl, rfl, rfl, rfl, rfl, rfl, rfl, rfl, rfl, rfl, trivial⟩ ?_
          refine Tri.seq ?_
          refine Tri.drawn1 mixed eqsOk (eqs := eqs) ⟨[0, 0, 3, 7, 15, 0, 32, 127, 255, 511, 511, 2047, 4095, 8191, 511, 16895, 65535, 131071, 262143, 524287, 524287, 2097151, 4194303, 8388607, 524287, 17301503, 524287, 67633151, 252182527, 520617983, 1073741823, 2147483647], [0, 0, 0, 0, 0, 0, 0, 0, 0, 0, 0, 0, 0, 0, 0, 0, 0, 0, 0, 0, 0, 0, 0, 0, 0, 0, 0, 0, 0, 0, 0, 0], 1, [0, 1, 2, 3, 4, 5, 6, 7, 8, 9, 10, 11, 12, 13, 14, 15, 16, 17, 18, 19, 20, 21, 22, 23, 24, 25, 26, 27, 28, 29, 30, 31]⟩ (by decide +kernel) rfl ?_
          refine dL rfl rfl rfl rfl (oV rfl ?_)
          refine dL rfl rfl rfl rfl (oV rfl ?_)
          refine dL rfl rfl rfl rfl (oIA (z := 3) rfl rfl rfl rfl (by omega) ?_)
          refine dL rfl rfl rfl rfl (oW (at' (.ptr (some (_, _ + 0)))) rfl rfl ?_)
          refine dR0 rfl rfl rfl rfl (op_load_at (x := .at (.int .i64 (shift ((pcs l).length + 1) y).kind)) rfl (by repeat (first | assumption | exact Heap.push_new | exact Heap.set_newl (by first | (simp only [Heap.n_push, Heap.n_set]; omega) | exact Heap.get_lt (by assumption)) | refine Heap.push_old ?_ | refine Heap.set_old ?_ (by first | assumption | omega | (simp only [Heap.n_push, Heap.n_set]; omega)) (by first | (simp only [Heap.n_push, Heap.n_set]; omega) | exact Heap.get_lt (by assumption)))) (part_cell 0 hcc (by omega) rfl rfl rfl rfl)) ?_
          refine dL rfl rfl rfl rfl (oW (at' (.ptr (some (_, 0)))) rfl rfl ?_)
          refine dR0 rfl rfl rfl rfl (op_load_at (x := .at _) rfl (by repeat (first | assumption | exact Heap.push_new | exact Heap.set_newl (by first | (simp only [Heap.n_push, Heap.n_set]; omega) | exact Heap.get_lt (by assumption)) | refine Heap.push_old ?_ | refine Heap.set_old ?_ (by first | assumption | omega | (simp only [Heap.n_push, Heap.n_set]; omega)) (by first | (simp only [Heap.n_push, Heap.n_set]; omega) | exact Heap.get_lt (by assumption)))) rfl) ?_
          refine dL rfl rfl rfl rfl (oNE rfl (fun h129 => (h129 rfl).elim) (fun h129 => ?_))
          refine dL rfl rfl rfl rfl (oV rfl ?_)
          refine dL rfl rfl rfl rfl (oV rfl ?_)
          refine dL rfl rfl rfl rfl (oV rfl ?_)
          refine dL rfl rfl rfl rfl (oIA (z := 3) rfl rfl rfl rfl (by omega) ?_)
          refine dL rfl rfl rfl rfl (oW (at' (.ptr (some (_, _ + 1)))) rfl rfl ?_)
          refine dR0 rfl rfl rfl rfl (op_load_at (x := .at (.str (shift ((pcs l).length + 1) y).text)) rfl (by repeat (first | assumption | exact Heap.push_new | exact Heap.set_newl (by first | (simp only [Heap.n_push, Heap.n_set]; omega) | exact Heap.get_lt (by assumption)) | refine Heap.push_old ?_ | refine Heap.set_old ?_ (by first | assumption | omega | (simp only [Heap.n_push, Heap.n_set]; omega)) (by first | (simp only [Heap.n_push, Heap.n_set]; omega) | exact Heap.get_lt (by assumption)))) (part_cell 1 hcc (by omega) rfl rfl rfl rfl)) ?_
          refine dL rfl rfl rfl rfl (oW (at' (.ptr (some (_, 1)))) rfl rfl ?_)
          refine dR0 rfl rfl rfl rfl (op_load_at (x := .at _) rfl (by repeat (first | assumption | exact Heap.push_new | exact Heap.set_newl (by first | (simp only [Heap.n_push, Heap.n_set]; omega) | exact Heap.get_lt (by assumption)) | refine Heap.push_old ?_ | refine Heap.set_old ?_ (by first | assumption | omega | (simp only [Heap.n_push, Heap.n_set]; omega)) (by first | (simp only [Heap.n_push, Heap.n_set]; omega) | exact Heap.get_lt (by assumption)))) rfl) ?_
          refine dL rfl rfl rfl rfl (oSN rfl (fun h138 => (h138 rfl).elim) (fun h138 => ?_))
          refine dL rfl rfl rfl rfl (oV rfl ?_)
          refine dL rfl rfl rfl rfl (oV rfl ?_)
          refine dL rfl rfl rfl rfl (oV rfl ?_)
          refine dL rfl rfl rfl rfl (oV rfl ?_)
          refine dL rfl rfl rfl rfl (oIA (z := 3) rfl rfl rfl rfl (by omega) ?_)
          refine dL rfl rfl rfl rfl (oW (at' (.ptr (some (_, _ + 2)))) rfl rfl ?_)
          refine dR0 rfl rfl rfl rfl (op_load_at (x := .at (.int .i64 (shift ((pcs l).length + 1) y).pos)) rfl (by repeat (first | assumption | exact Heap.push_new | exact Heap.set_newl (by first | (simp only [Heap.n_push, Heap.n_set]; omega) | exact Heap.get_lt (by assumption)) | refine Heap.push_old ?_ | refine Heap.set_old ?_ (by first | assumption | omega | (simp only [Heap.n_push, Heap.n_set]; omega)) (by first | (simp only [Heap.n_push, Heap.n_set]; omega) | exact Heap.get_lt (by assumption)))) (part_cell 2 hcc (by omega) rfl rfl rfl rfl)) ?_
          refine dL rfl rfl rfl rfl (oW (at' (.ptr (some (_, 2)))) rfl rfl ?_)
          refine dR0 rfl rfl rfl rfl (op_load_at (x := .at _) rfl (by repeat (first | assumption | exact Heap.push_new | exact Heap.set_newl (by first | (simp only [Heap.n_push, Heap.n_set]; omega) | exact Heap.get_lt (by assumption)) | refine Heap.push_old ?_ | refine Heap.set_old ?_ (by first | assumption | omega | (simp only [Heap.n_push, Heap.n_set]; omega)) (by first | (simp only [Heap.n_push, Heap.n_set]; omega) | exact Heap.get_lt (by assumption)))) rfl) ?_
          refine dL rfl rfl rfl rfl (oV rfl ?_)
          refine dR0 rfl rfl rfl rfl rfl ?_
          refine dL rfl rfl rfl rfl (oAdd rfl (by omega) ?_)
          refine dL rfl rfl rfl rfl (oAdd (m := 1) rfl (by omega) ?_)
          refine dL rfl rfl rfl rfl (oNE rfl (fun h152 => (h152 (by (show ((y.pos + ((pcs l).length + 1) : Nat) : Int) = _); omega)).elim) (fun h152 => ?_))
          refine dL rfl rfl rfl rfl (oV rfl ?_)
          refine dE0 ?_
          show Tri Try.prog 156 _ _ _ _
          refine Tri.has (l := [(5, _), (7, _), (9, _), (11, _), (13, _), (14, _), (92, _), (93, _), (94, _), (110, _), (114, _), (153, _)]) ⟨rfl, rfl, rfl, rfl, rfl, rfl, rfl, rfl, rfl, rfl, rfl, rfl, trivial⟩ ?_
          refine Tri.cond (t := false) rfl (fun h => Bool.noConfusion h) (fun _ => ?_)
          refine Tri.skip ?_
          show Tri Try.prog 156 _ _ _ _
          refine Tri.has (l := [(5, _), (7, _), (9, _), (11, _), (13, _), (14, _), (92, _), (93, _), (94, _), (110, _), (114, _), (153, _)]) ⟨rfl, rfl, rfl, rfl, rfl, rfl, rfl, rfl, rfl, rfl, rfl, rfl, trivial⟩ ?_
          refine Tri.region mixed eqsOk (eqs := eqs) ?_
          refine sO rfl rfl (oAdd (m := 1) rfl (by omega) ?_)
          refine sO rfl rfl (oV rfl ?_)
          refine ⟨(scanS (pcs l ++ [10] ++ pcs m)).1.length - (n + 1), by omega, n + 1, rfl, by omega, ⟨rfl, rfl, rfl, rfl, rfl, rfl, trivial⟩, hra1.kp (by repeat (first | assumption | exact Kp.refl | refine Kp.push ?_ | refine Kp.set ?_ (by first | (simp only [Heap.n_push, Heap.n_set]; omega) | exact Heap.get_lt (by assumption)) (.inr (by first | omega | (simp only [Heap.n_push, Heap.n_set]; omega))))), hrb1.kp (by repeat (first | assumption | exact Kp.refl | refine Kp.push ?_ | refine Kp.set ?_ (by first | (simp only [Heap.n_push, Heap.n_set]; omega) | exact Heap.get_lt (by assumption)) (.inr (by first | omega | (simp only [Heap.n_push, Heap.n_set]; omega))))), hrc1.kp (by repeat (first | assumption | exact Kp.refl | refine Kp.push ?_ | refine Kp.set ?_ (by first | (simp only [Heap.n_push, Heap.n_set]; omega) | exact Heap.get_lt (by assumption)) (.inr (by first | omega | (simp only [Heap.n_push, Heap.n_set]; omega)))))⟩
      ·
        show Tri Try.prog 156 _ _ _ _
        refine Tri.has (l := [(5, _), (7, _), (9, _), (11, _), (92, _), (93, _), (94, _)]) ⟨rfl, rfl, rfl, rfl, rfl, rfl, rfl, trivial⟩ ?_
        refine Tri.seq ?_
        refine Tri.cond (t := false) rfl (fun h => Bool.noConfusion h) (fun _ => ?_)
        refine Tri.exit ?_
        show Tri Try.prog 156 _ _ _ _
        refine Tri.has (l := [(5, _), (7, _), (9, _), (11, _), (92, _), (93, _), (94, _)]) ⟨rfl, rfl, rfl, rfl, rfl, rfl, rfl, trivial⟩ ?_
        refine Tri.seq ?_
        refine Tri.region mixed eqsOk (eqs := eqs) ?_
        refine sO rfl rfl (oF rfl (fnOk_of Try.func3 (by decide) rfl) (examples_ok _) ?_)
        refine sO rfl rfl (oV rfl ?_)
        show Tri Try.prog 156 _ _ _ _
        refine Tri.has (l := [(4, _), (5, _), (7, _), (9, _), (11, _), (92, _), (93, _), (94, _)]) ⟨rfl, rfl, rfl, rfl, rfl, rfl, rfl, rfl, trivial⟩ ?_
        refine Tri.ret ?_
        refine ⟨trivial, _, rfl, ?_⟩
        exact ⟨rfl, trivial⟩
end Go.Proofs.Yteknebkgpehphaa
