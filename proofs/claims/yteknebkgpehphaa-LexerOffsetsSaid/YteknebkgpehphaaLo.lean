/-
  THE WALK of fullinglaw2.LexerOffsets (printed by wip/tools/walk.py from wip/specs/lexO.py). Written in this session.
-/
import Derived.Test.YteknebkgpehphaaLb
namespace Go.Proofs.Yteknebkgpehphaa
open Go.Ea
set_option maxRecDepth 100000
set_option linter.unusedVariables false
set_option linter.unusedSimpArgs false

theorem offsets_ok (l : List Int) (q : Option (Nat × Nat)) (H : Heap) (hl : RowR H (fun x => [AT.int .i64 x]) 1 l q) : Sim Try.prog 5 [at' (.slice q l.length)] H (fun u G => u = at' (.bool true) ∧ True) := by
  have hlen := pcs_len l
  refine Sim.of_tri Try.func5 rfl ?_
  show Tri Try.prog 101 _ _ _ _
  refine Tri.seq ?_
  refine Tri.region mixed eqsOk (eqs := eqs) ?_
  refine sO rfl rfl (oV rfl ?_)
  show Tri Try.prog 101 _ _ _ _
  refine Tri.has (l := [(0, _), (2, _)]) ⟨rfl, rfl, trivial⟩ ?_
  refine Tri.seq ?_
  refine Tri.region mixed eqsOk (eqs := eqs) ?_
  refine sO rfl rfl (oV rfl ?_)
  refine sO rfl rfl (oF rfl (fnOk_of Try.func11 (by decide) rfl) (pieces_ok _ _ _ (by assumption)) ?_)
  refine sO rfl rfl (oV rfl ?_)
  show Tri Try.prog 101 _ _ _ _
  refine Tri.has (l := [(0, _), (2, _), (3, _)]) ⟨rfl, rfl, rfl, trivial⟩ ?_
  refine Tri.seq ?_
  refine Tri.region mixed eqsOk (eqs := eqs) ?_
  refine sO rfl rfl (oV rfl ?_)
  refine sO rfl rfl (oC rfl (fnOk_of Try.func9 (by decide) rfl) (Scan_ok _ _) ?_)
  rintro u G ⟨a, rfl, hr, hk⟩
  obtain ⟨p, rfl, hr2⟩ := hr.r tokC_len
  refine sO rfl rfl (oV rfl ?_)
  refine sO rfl rfl (oV rfl ?_)
  refine sO rfl rfl (oV rfl ?_)
  refine sO rfl rfl (oAlloc (cs := [.int .i64 0, .int .i64 0]) rfl rfl ?_)
  refine sO rfl rfl (oV rfl ?_)
  refine sO rfl rfl (oStore (n := 2) (cs' := [_, _]) rfl rfl rfl (by repeat (first | assumption | exact Heap.push_new | exact Heap.set_newl (by first | (simp only [Heap.n_push, Heap.n_set]; omega) | exact Heap.get_lt (by assumption)) | refine Heap.push_old ?_ | refine Heap.set_old ?_ (by first | assumption | omega | (simp only [Heap.n_push, Heap.n_set]; omega)) (by first | (simp only [Heap.n_push, Heap.n_set]; omega) | exact Heap.get_lt (by assumption)))) rfl (Nat.le_of_ble_eq_true rfl) rfl rfl ?_)
  show Tri Try.prog 101 _ _ _ _
  refine Tri.has (l := [(0, _), (2, _), (3, _), (4, _), (5, _)]) ⟨rfl, rfl, rfl, rfl, rfl, trivial⟩ ?_
  refine Tri.seq ?_
  refine Tri.seq ?_
  refine Tri.region mixed eqsOk (eqs := eqs) ?_
  refine sO rfl rfl (oW (at' (.ptr (some (_, 0)))) rfl rfl ?_)
  refine sO rfl rfl (oLoad (x := .at _) rfl (by repeat (first | assumption | exact Heap.push_new | exact Heap.set_newl (by first | (simp only [Heap.n_push, Heap.n_set]; omega) | exact Heap.get_lt (by assumption)) | refine Heap.push_old ?_ | refine Heap.set_old ?_ (by first | assumption | omega | (simp only [Heap.n_push, Heap.n_set]; omega)) (by first | (simp only [Heap.n_push, Heap.n_set]; omega) | exact Heap.get_lt (by assumption)))) rfl ?_)
  refine sO rfl rfl (oNE rfl (fun h18 => ?_) (fun h18 => ?_))
  ·
    show Tri Try.prog 101 _ _ _ _
    refine Tri.has (l := [(0, _), (2, _), (3, _), (4, _), (5, _), (18, _)]) ⟨rfl, rfl, rfl, rfl, rfl, rfl, trivial⟩ ?_
    refine Tri.cond (t := true) rfl (fun _ => ?_) (fun h => Bool.noConfusion h)
    refine Tri.seq ?_
    refine Tri.region mixed eqsOk (eqs := eqs) ?_
    refine sO rfl rfl (oV rfl ?_)
    refine sO rfl rfl (oV rfl ?_)
    refine sO rfl rfl (oE rfl (fun h21 => ?_) (fun h21 => (h21 (by have := (scanS_err (s := pcs l) (by omega) (by omega)).1; rw [this]; rfl)).elim))
    refine sO rfl rfl (oV rfl ?_)
    refine sO rfl rfl (oW (at' (.ptr (some (_, 1)))) rfl rfl ?_)
    refine sO rfl rfl (oLoad (x := .at _) rfl (by repeat (first | assumption | exact Heap.push_new | exact Heap.set_newl (by first | (simp only [Heap.n_push, Heap.n_set]; omega) | exact Heap.get_lt (by assumption)) | refine Heap.push_old ?_ | refine Heap.set_old ?_ (by first | assumption | omega | (simp only [Heap.n_push, Heap.n_set]; omega)) (by first | (simp only [Heap.n_push, Heap.n_set]; omega) | exact Heap.get_lt (by assumption)))) rfl ?_)
    refine sO rfl rfl (oP rfl (fun h25 => ?_) (fun h25 => absurd (by omega) h25))
    refine sO rfl rfl (oV rfl ?_)
    refine sO rfl rfl (oV rfl ?_)
    refine sO rfl rfl (oW (at' (.ptr (some (_, 1)))) rfl rfl ?_)
    refine sO rfl rfl (oLoad (x := .at _) rfl (by repeat (first | assumption | exact Heap.push_new | exact Heap.set_newl (by first | (simp only [Heap.n_push, Heap.n_set]; omega) | exact Heap.get_lt (by assumption)) | refine Heap.push_old ?_ | refine Heap.set_old ?_ (by first | assumption | omega | (simp only [Heap.n_push, Heap.n_set]; omega)) (by first | (simp only [Heap.n_push, Heap.n_set]; omega) | exact Heap.get_lt (by assumption)))) rfl ?_)
    refine sO rfl rfl (oV rfl ?_)
    refine sO rfl rfl (oV rfl ?_)
    refine sO rfl rfl (oP rfl (fun h32 => ?_) (fun h32 => (h32 (by have := (scanS_err (s := pcs l) (by omega) (by omega)).2; omega)).elim))
    refine sO rfl rfl (oV rfl ?_)
    refine sO rfl rfl (oV rfl ?_)
    refine sO rfl rfl (oF rfl (fnOk_of Try.func3 (by decide) rfl) (examples_ok _) ?_)
    refine sO rfl rfl (oV rfl ?_)
    refine sO rfl rfl (oV rfl ?_)
    show Tri Try.prog 101 _ _ _ _
    refine Tri.has (l := [(0, _), (2, _), (3, _), (4, _), (5, _), (18, _)]) ⟨rfl, rfl, rfl, rfl, rfl, rfl, trivial⟩ ?_
    refine Tri.ret ?_
    refine ⟨trivial, _, rfl, ?_⟩
    exact ⟨rfl, trivial⟩
  ·
    show Tri Try.prog 101 _ _ _ _
    refine Tri.has (l := [(0, _), (2, _), (3, _), (4, _), (5, _), (18, _)]) ⟨rfl, rfl, rfl, rfl, rfl, rfl, trivial⟩ ?_
    refine Tri.cond (t := false) rfl (fun h => Bool.noConfusion h) (fun _ => ?_)
    refine Tri.skip ?_
    show Tri Try.prog 101 _ _ _ _
    refine Tri.has (l := [(0, _), (2, _), (3, _), (4, _), (5, _), (18, _)]) ⟨rfl, rfl, rfl, rfl, rfl, rfl, trivial⟩ ?_
    refine Tri.seq ?_
    refine Tri.region mixed eqsOk (eqs := eqs) ?_
    refine sO rfl rfl (oV rfl ?_)
    show Tri Try.prog 101 _ _ _ _
    refine Tri.has (l := [(0, _), (2, _), (3, _), (4, _), (5, _), (6, _), (18, _)]) ⟨rfl, rfl, rfl, rfl, rfl, rfl, rfl, trivial⟩ ?_
    refine Tri.seq ?_
    refine Tri.seq ?_
    refine Tri.region mixed eqsOk (eqs := eqs) ?_
    refine sO rfl rfl (oV rfl ?_)
    refine sO rfl rfl (oV rfl ?_)
    refine sO rfl rfl (oV rfl ?_)
    show Tri Try.prog 101 _ _ _ _
    refine Tri.has (l := [(0, _), (2, _), (3, _), (4, _), (5, _), (6, _), (18, _), (37, _), (38, _), (39, _)]) ⟨rfl, rfl, rfl, rfl, rfl, rfl, rfl, rfl, rfl, rfl, trivial⟩ ?_
    refine Tri.block ?_
    refine Tri.loop (fun k lk1 H1 => ∃ (n q : Nat), k = (scanS (pcs l)).1.length - n ∧ n ≤ (scanS (pcs l)).1.length ∧ q ≤ (pcs l).length ∧ Chain (pcs l) q ((scanS (pcs l)).1.drop n) ∧ Has lk1 [(3, at' (.str (pcs l))), (6, at' (.int .i64 q)), (37, at' (.slice p (scanS (pcs l)).1.length)), (38, at' (.int .i64 (scanS (pcs l)).1.length)), (39, at' (.int .i64 n))] ∧ RowR H1 tokC 3 (scanS (pcs l)).1 p) ((scanS (pcs l)).1.length) (⟨0, 0, rfl, by omega, by omega, scanS_chain (by omega), ⟨rfl, rfl, rfl, rfl, rfl, trivial⟩, hr2.kp (by repeat (first | assumption | exact Kp.refl | refine Kp.push ?_ | refine Kp.set ?_ (by first | (simp only [Heap.n_push, Heap.n_set]; omega) | exact Heap.get_lt (by assumption)) (.inr (by first | omega | (simp only [Heap.n_push, Heap.n_set]; omega)))))⟩) ?_
    rintro k lk1 H1 ⟨n, q1, hk2, hn, hq, hch, hh, hr1⟩
    refine Tri.has hh ?_
    have htl := toks_le (s := pcs l) (by omega)
    refine Tri.seq ?_
    refine Tri.region mixed eqsOk (eqs := eqs) ?_
    refine sO rfl rfl (oP rfl (fun h40 => ?_) (fun h40 => ?_))
    ·
      show Tri Try.prog 101 _ _ _ _
      refine Tri.has (l := [(3, _), (6, _), (37, _), (38, _), (39, _), (40, _)]) ⟨rfl, rfl, rfl, rfl, rfl, rfl, trivial⟩ ?_
      refine Tri.seq ?_
      refine Tri.cond (t := true) rfl (fun _ => ?_) (fun h => Bool.noConfusion h)
      refine Tri.skip ?_
      show Tri Try.prog 101 _ _ _ _
      refine Tri.has (l := [(3, _), (6, _), (37, _), (38, _), (39, _), (40, _)]) ⟨rfl, rfl, rfl, rfl, rfl, rfl, trivial⟩ ?_
      refine Tri.seq ?_
      refine Tri.block ?_
      refine Tri.seq ?_
      refine Tri.region mixed eqsOk (eqs := eqs) ?_
      obtain ⟨x, hx⟩ : ∃ x, (scanS (pcs l)).1[n]? = some x := ⟨_, List.getElem?_eq_getElem (by omega)⟩
      obtain ⟨id, o, T, kk, cs, rfl, hg, hle, hc⟩ := hr1.at tokC_len hx
      rw [drop_at hx] at hch
      obtain ⟨c1, c2, c3, c4, c5, c6⟩ := hch
      refine sO rfl rfl (oIA (z := 3) rfl rfl rfl rfl (by omega) ?_)
      refine sO rfl rfl (oLoad (x := .agg (tokC x)) rfl (by repeat (first | assumption | exact Heap.push_new | exact Heap.set_newl (by first | (simp only [Heap.n_push, Heap.n_set]; omega) | exact Heap.get_lt (by assumption)) | refine Heap.push_old ?_ | refine Heap.set_old ?_ (by first | assumption | omega | (simp only [Heap.n_push, Heap.n_set]; omega)) (by first | (simp only [Heap.n_push, Heap.n_set]; omega) | exact Heap.get_lt (by assumption)))) (part_all hc hle rfl rfl rfl) ?_)
      refine sO rfl rfl (oAlloc (cs := [.int .i64 0, .str [], .int .i64 0]) rfl rfl ?_)
      refine sO rfl rfl (oStore (n := 3) (cs' := [_, _, _]) rfl rfl rfl (by repeat (first | assumption | exact Heap.push_new | exact Heap.set_newl (by first | (simp only [Heap.n_push, Heap.n_set]; omega) | exact Heap.get_lt (by assumption)) | refine Heap.push_old ?_ | refine Heap.set_old ?_ (by first | assumption | omega | (simp only [Heap.n_push, Heap.n_set]; omega)) (by first | (simp only [Heap.n_push, Heap.n_set]; omega) | exact Heap.get_lt (by assumption)))) rfl (Nat.le_of_ble_eq_true rfl) rfl rfl ?_)
      show Tri Try.prog 101 _ _ _ _
      refine Tri.has (l := [(3, _), (6, _), (8, _), (37, _), (38, _), (39, _), (40, _)]) ⟨rfl, rfl, rfl, rfl, rfl, rfl, rfl, trivial⟩ ?_
      refine Tri.seq ?_
      refine Tri.seq ?_
      refine Tri.drawn1 mixed eqsOk (eqs := eqs) ⟨[0, 1, 0, 7, 15, 31, 63, 127, 255, 511, 1023, 2047, 1023, 5119, 13311, 32767, 1023, 66559, 262143, 524287, 1048575, 2097151, 2097151, 6291455, 2097151, 18874367, 2097151, 69206015, 203423743, 522190847, 1073741823, 2097151, 2149580799, 8589934591, 17179869183, 34359738367, 68719476735, 68719476735, 68719476735, 343597383679, 1099511627775, 2199023255551, 4398046511103, 8796093022207], [0, 0, 0, 0, 0, 0, 0, 0, 0, 0, 0, 0, 0, 0, 0, 0, 0, 0, 0, 0, 0, 0, 0, 0, 0, 0, 0, 0, 0, 0, 0, 0, 0, 0, 0, 0, 0, 0, 0, 0, 0, 0, 0, 0], 1, [0, 1, 2, 3, 4, 5, 6, 7, 8, 9, 10, 11, 12, 13, 14, 15, 16, 17, 18, 19, 20, 21, 22, 23, 24, 25, 26, 27, 28, 29, 30, 31, 32, 33, 34, 35, 36, 37, 38, 39, 40, 41, 42, 43]⟩ (by decide +kernel) rfl ?_
      refine dL rfl rfl rfl rfl (oW (at' (.ptr (some (_, 2)))) rfl rfl ?_)
      refine dR0 rfl rfl rfl rfl (op_load_at (x := .at _) rfl (by repeat (first | assumption | exact Heap.push_new | exact Heap.set_newl (by first | (simp only [Heap.n_push, Heap.n_set]; omega) | exact Heap.get_lt (by assumption)) | refine Heap.push_old ?_ | refine Heap.set_old ?_ (by first | assumption | omega | (simp only [Heap.n_push, Heap.n_set]; omega)) (by first | (simp only [Heap.n_push, Heap.n_set]; omega) | exact Heap.get_lt (by assumption)))) rfl) ?_
      refine dL rfl rfl rfl rfl (oV rfl ?_)
      refine dL rfl rfl rfl rfl (oP rfl (fun h46 => absurd h46 (by omega)) (fun h46 => ?_))
      refine dL rfl rfl rfl rfl (oV rfl ?_)
      refine dL rfl rfl rfl rfl (oW (at' (.ptr (some (_, 1)))) rfl rfl ?_)
      refine dR0 rfl rfl rfl rfl (op_load_at (x := .at _) rfl (by repeat (first | assumption | exact Heap.push_new | exact Heap.set_newl (by first | (simp only [Heap.n_push, Heap.n_set]; omega) | exact Heap.get_lt (by assumption)) | refine Heap.push_old ?_ | refine Heap.set_old ?_ (by first | assumption | omega | (simp only [Heap.n_push, Heap.n_set]; omega)) (by first | (simp only [Heap.n_push, Heap.n_set]; omega) | exact Heap.get_lt (by assumption)))) rfl) ?_
      refine dL rfl rfl rfl rfl (oS rfl (fun h50 => (c2 h50).elim) (fun h50 => ?_))
      refine dL rfl rfl rfl rfl (oV rfl ?_)
      refine dL rfl rfl rfl rfl (oV rfl ?_)
      refine dL rfl rfl rfl rfl (oW (at' (.ptr (some (_, 2)))) rfl rfl ?_)
      refine dR0 rfl rfl rfl rfl (op_load_at (x := .at _) rfl (by repeat (first | assumption | exact Heap.push_new | exact Heap.set_newl (by first | (simp only [Heap.n_push, Heap.n_set]; omega) | exact Heap.get_lt (by assumption)) | refine Heap.push_old ?_ | refine Heap.set_old ?_ (by first | assumption | omega | (simp only [Heap.n_push, Heap.n_set]; omega)) (by first | (simp only [Heap.n_push, Heap.n_set]; omega) | exact Heap.get_lt (by assumption)))) rfl) ?_
      refine dL rfl rfl rfl rfl (oW (at' (.ptr (some (_, 1)))) rfl rfl ?_)
      refine dR0 rfl rfl rfl rfl (op_load_at (x := .at _) rfl (by repeat (first | assumption | exact Heap.push_new | exact Heap.set_newl (by first | (simp only [Heap.n_push, Heap.n_set]; omega) | exact Heap.get_lt (by assumption)) | refine Heap.push_old ?_ | refine Heap.set_old ?_ (by first | assumption | omega | (simp only [Heap.n_push, Heap.n_set]; omega)) (by first | (simp only [Heap.n_push, Heap.n_set]; omega) | exact Heap.get_lt (by assumption)))) rfl) ?_
      refine dR0 rfl rfl rfl rfl rfl ?_
      refine dL rfl rfl rfl rfl (oAdd rfl (by omega) ?_)
      refine dL rfl rfl rfl rfl (oV rfl ?_)
      refine dR0 rfl rfl rfl rfl rfl ?_
      refine dL rfl rfl rfl rfl (oP rfl (fun h61 => absurd h61 (by omega)) (fun h61 => ?_))
      refine dL rfl rfl rfl rfl (oV rfl ?_)
      refine dL rfl rfl rfl rfl (oV rfl ?_)
      refine dL rfl rfl rfl rfl (oV rfl ?_)
      refine dL rfl rfl rfl rfl (oW (at' (.ptr (some (_, 2)))) rfl rfl ?_)
      refine dR0 rfl rfl rfl rfl (op_load_at (x := .at _) rfl (by repeat (first | assumption | exact Heap.push_new | exact Heap.set_newl (by first | (simp only [Heap.n_push, Heap.n_set]; omega) | exact Heap.get_lt (by assumption)) | refine Heap.push_old ?_ | refine Heap.set_old ?_ (by first | assumption | omega | (simp only [Heap.n_push, Heap.n_set]; omega)) (by first | (simp only [Heap.n_push, Heap.n_set]; omega) | exact Heap.get_lt (by assumption)))) rfl) ?_
      refine dL rfl rfl rfl rfl (oW (at' (.ptr (some (_, 2)))) rfl rfl ?_)
      refine dR0 rfl rfl rfl rfl (op_load_at (x := .at _) rfl (by repeat (first | assumption | exact Heap.push_new | exact Heap.set_newl (by first | (simp only [Heap.n_push, Heap.n_set]; omega) | exact Heap.get_lt (by assumption)) | refine Heap.push_old ?_ | refine Heap.set_old ?_ (by first | assumption | omega | (simp only [Heap.n_push, Heap.n_set]; omega)) (by first | (simp only [Heap.n_push, Heap.n_set]; omega) | exact Heap.get_lt (by assumption)))) rfl) ?_
      refine dL rfl rfl rfl rfl (oW (at' (.ptr (some (_, 1)))) rfl rfl ?_)
      refine dR0 rfl rfl rfl rfl (op_load_at (x := .at _) rfl (by repeat (first | assumption | exact Heap.push_new | exact Heap.set_newl (by first | (simp only [Heap.n_push, Heap.n_set]; omega) | exact Heap.get_lt (by assumption)) | refine Heap.push_old ?_ | refine Heap.set_old ?_ (by first | assumption | omega | (simp only [Heap.n_push, Heap.n_set]; omega)) (by first | (simp only [Heap.n_push, Heap.n_set]; omega) | exact Heap.get_lt (by assumption)))) rfl) ?_
      refine dR0 rfl rfl rfl rfl rfl ?_
      refine dL rfl rfl rfl rfl (oAdd rfl (by omega) ?_)
      refine dL rfl rfl rfl rfl (oLoHi rfl rfl rfl rfl (by omega) (by omega) ?_)
      refine dL rfl rfl rfl rfl (oW (at' (.ptr (some (_, 1)))) rfl rfl ?_)
      refine dR0 rfl rfl rfl rfl (op_load_at (x := .at _) rfl (by repeat (first | assumption | exact Heap.push_new | exact Heap.set_newl (by first | (simp only [Heap.n_push, Heap.n_set]; omega) | exact Heap.get_lt (by assumption)) | refine Heap.push_old ?_ | refine Heap.set_old ?_ (by first | assumption | omega | (simp only [Heap.n_push, Heap.n_set]; omega)) (by first | (simp only [Heap.n_push, Heap.n_set]; omega) | exact Heap.get_lt (by assumption)))) rfl) ?_
      refine dL rfl rfl rfl rfl (oSN rfl (fun h76 => (h76 c4).elim) (fun h76 => ?_))
      refine dL rfl rfl rfl rfl (oV rfl ?_)
      refine dL rfl rfl rfl rfl (oV rfl ?_)
      refine dL rfl rfl rfl rfl (oV rfl ?_)
      refine dL rfl rfl rfl rfl (oV rfl ?_)
      refine dL rfl rfl rfl rfl (oW (at' (.ptr (some (_, 2)))) rfl rfl ?_)
      refine dR0 rfl rfl rfl rfl (op_load_at (x := .at _) rfl (by repeat (first | assumption | exact Heap.push_new | exact Heap.set_newl (by first | (simp only [Heap.n_push, Heap.n_set]; omega) | exact Heap.get_lt (by assumption)) | refine Heap.push_old ?_ | refine Heap.set_old ?_ (by first | assumption | omega | (simp only [Heap.n_push, Heap.n_set]; omega)) (by first | (simp only [Heap.n_push, Heap.n_set]; omega) | exact Heap.get_lt (by assumption)))) rfl) ?_
      refine dL rfl rfl rfl rfl (oLoHi rfl rfl rfl rfl (by omega) (by omega) ?_)
      refine dC0 (.drop rfl (.drop rfl (.drop rfl (.drop rfl (.drop rfl (.drop rfl (.drop rfl (.drop rfl (.drop rfl (.drop rfl (.drop rfl (.drop rfl .nil)))))))))))) rfl rfl rfl rfl (oFB rfl (fnOk_of Try.func14 (by decide) rfl) (blank_ok _ _ (by rw [List.length_drop, List.length_take]; omega)) (fun h84 => ?_) (fun h84 => by rw [c5] at h84; cases h84))
      refine ⟨⟨.inl rfl, .inl rfl, .inl rfl, .inl rfl, .inl rfl, .inl rfl, .inl rfl, .inl rfl, .inl rfl, .inl rfl, .inl rfl, .inl rfl, trivial⟩, ?_⟩
      refine dL rfl rfl rfl rfl (oV rfl ?_)
      refine dL rfl rfl rfl rfl (oV rfl ?_)
      refine dE0 ?_
      show Tri Try.prog 101 _ _ _ _
      refine Tri.has (l := [(3, _), (6, _), (8, _), (37, _), (38, _), (39, _), (40, _), (86, _)]) ⟨rfl, rfl, rfl, rfl, rfl, rfl, rfl, rfl, trivial⟩ ?_
      refine Tri.cond (t := false) rfl (fun h => Bool.noConfusion h) (fun _ => ?_)
      refine Tri.skip ?_
      show Tri Try.prog 101 _ _ _ _
      refine Tri.has (l := [(3, _), (6, _), (8, _), (37, _), (38, _), (39, _), (40, _), (86, _)]) ⟨rfl, rfl, rfl, rfl, rfl, rfl, rfl, rfl, trivial⟩ ?_
      refine Tri.region mixed eqsOk (eqs := eqs) ?_
      refine sO rfl rfl (oW (at' (.ptr (some (_, 2)))) rfl rfl ?_)
      refine sO rfl rfl (oLoad (x := .at _) rfl (by repeat (first | assumption | exact Heap.push_new | exact Heap.set_newl (by first | (simp only [Heap.n_push, Heap.n_set]; omega) | exact Heap.get_lt (by assumption)) | refine Heap.push_old ?_ | refine Heap.set_old ?_ (by first | assumption | omega | (simp only [Heap.n_push, Heap.n_set]; omega)) (by first | (simp only [Heap.n_push, Heap.n_set]; omega) | exact Heap.get_lt (by assumption)))) rfl ?_)
      refine sO rfl rfl (oW (at' (.ptr (some (_, 1)))) rfl rfl ?_)
      refine sO rfl rfl (oLoad (x := .at _) rfl (by repeat (first | assumption | exact Heap.push_new | exact Heap.set_newl (by first | (simp only [Heap.n_push, Heap.n_set]; omega) | exact Heap.get_lt (by assumption)) | refine Heap.push_old ?_ | refine Heap.set_old ?_ (by first | assumption | omega | (simp only [Heap.n_push, Heap.n_set]; omega)) (by first | (simp only [Heap.n_push, Heap.n_set]; omega) | exact Heap.get_lt (by assumption)))) rfl ?_)
      refine sO rfl rfl (oV rfl ?_)
      refine sO rfl rfl (oAdd rfl (by omega) ?_)
      refine sO rfl rfl (oV rfl ?_)
      show Tri Try.prog 101 _ _ _ _
      refine Tri.has (l := [(3, _), (6, _), (8, _), (37, _), (38, _), (39, _), (40, _), (86, _)]) ⟨rfl, rfl, rfl, rfl, rfl, rfl, rfl, rfl, trivial⟩ ?_
      refine Tri.region mixed eqsOk (eqs := eqs) ?_
      refine sO rfl rfl (oAdd (m := 1) rfl (by omega) ?_)
      refine sO rfl rfl (oV rfl ?_)
      refine ⟨(scanS (pcs l)).1.length - (n + 1), by omega, n + 1, x.pos + x.text.length, rfl, by omega, c3, c6, ⟨rfl, rfl, rfl, rfl, rfl, trivial⟩, hr1.kp (by repeat (first | assumption | exact Kp.refl | refine Kp.push ?_ | refine Kp.set ?_ (by first | (simp only [Heap.n_push, Heap.n_set]; omega) | exact Heap.get_lt (by assumption)) (.inr (by first | omega | (simp only [Heap.n_push, Heap.n_set]; omega)))))⟩
    ·
      show Tri Try.prog 101 _ _ _ _
      refine Tri.has (l := [(3, _), (6, _), (37, _), (38, _), (39, _), (40, _)]) ⟨rfl, rfl, rfl, rfl, rfl, rfl, trivial⟩ ?_
      refine Tri.seq ?_
      refine Tri.cond (t := false) rfl (fun h => Bool.noConfusion h) (fun _ => ?_)
      refine Tri.exit ?_
      show Tri Try.prog 101 _ _ _ _
      refine Tri.has (l := [(3, _), (6, _), (37, _), (38, _), (39, _), (40, _)]) ⟨rfl, rfl, rfl, rfl, rfl, rfl, trivial⟩ ?_
      refine Tri.seq ?_
      refine Tri.region mixed eqsOk (eqs := eqs) ?_
      refine sO rfl rfl (oV rfl ?_)
      refine sO rfl rfl (oV rfl ?_)
      refine sO rfl rfl (oLo rfl rfl rfl (by omega) ?_)
      have hfin : blankG false ((pcs l).drop q1) = true := by rw [List.drop_eq_nil_of_le (by omega)] at hch; exact hch.2
      refine sO rfl rfl (oFB rfl (fnOk_of Try.func14 (by decide) rfl) (blank_ok _ _ (by rw [List.length_drop]; omega)) (fun h97 => ?_) (fun h97 => by rw [hfin] at h97; cases h97))
      refine sO rfl rfl (oV rfl ?_)
      refine sO rfl rfl (oF rfl (fnOk_of Try.func3 (by decide) rfl) (examples_ok _) ?_)
      refine sO rfl rfl (oV rfl ?_)
      refine sO rfl rfl (oV rfl ?_)
      show Tri Try.prog 101 _ _ _ _
      refine Tri.has (l := [(2, _), (3, _), (6, _), (37, _), (38, _), (39, _), (40, _)]) ⟨rfl, rfl, rfl, rfl, rfl, rfl, rfl, trivial⟩ ?_
      refine Tri.ret ?_
      refine ⟨trivial, _, rfl, ?_⟩
      exact ⟨rfl, trivial⟩
end Go.Proofs.Yteknebkgpehphaa
