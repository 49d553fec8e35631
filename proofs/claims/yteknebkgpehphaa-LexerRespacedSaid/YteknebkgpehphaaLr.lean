/-
  THE WALK of fullinglaw2.LexerRespaced (printed by wip/tools/walk.py from wip/specs/lexR.py). Written in this session.
-/
import Derived.Test.YteknebkgpehphaaLb
namespace Go.Proofs.Yteknebkgpehphaa
open Go.Ea
set_option maxRecDepth 100000
set_option linter.unusedVariables false
set_option linter.unusedSimpArgs false

theorem scanS_def {s : List UInt8} (h : ¬ 20000 < s.length) : scanS s = scanG s.length (s.drop (spL false s)) (spL false s) := by unfold scanS; rw [if_neg h]
theorem spaced_take (l : List Tok) (n : Nat) : (spaced (l.take n)).length ≤ (spaced l).length := by
  have e : spaced l = spaced (l.take n) ++ spaced (l.drop n) := by
    unfold spaced; rw [← List.flatMap_append, List.take_append_drop]
  rw [e, List.length_append]; omega
theorem spaced_snoc {l : List Tok} {n : Nat} {x : Tok} (h : l[n]? = some x) : spaced (l.take (n + 1)) = spaced (l.take n) ++ [32] ++ x.text := by
  unfold spaced; rw [List.take_add_one, h]; simp
theorem respaced {s : List UInt8} (hs : s.length ≤ 570) (h : (scanS s).2.1 = 0) (note : List UInt8) :
    ∃ m : List Tok, scanS (spaced (scanS s).1 ++ [32, 35, 32] ++ lineG 0 note) = (m, 0, 0) ∧ m.map (fun t => (t.kind, t.text)) = (scanS s).1.map (fun t => (t.kind, t.text)) := by
  have h1 := spaced_len _ 0 (scanS_chain h) (Nat.zero_le _)
  have h2 := line_len note 0 (by omega)
  have hg : ∀ t ∈ (scanS s).1, Good t := by
    have e : scanS s = scanG s.length (s.drop (spL false s)) (spL false s) := by unfold scanS; rw [if_neg (by omega)]
    rw [e] at h ⊢
    exact good_scan _ _ _ h
  obtain ⟨m, g1, g2⟩ := spaced_scan (line_no note 0) (scanS s).1 hg (spaced (scanS s).1 ++ [32, 35, 32] ++ lineG 0 note).length (spL false (spaced (scanS s).1 ++ [32, 35, 32] ++ lineG 0 note)) (Nat.le_refl _)
  refine ⟨m, ?_, g2⟩
  rw [← g1]
  exact scanS_def (by simp only [List.length_append, List.length_cons, List.length_nil]; omega)
theorem map_at {l m : List Tok} (h : m.map (fun t => (t.kind, t.text)) = l.map (fun t => (t.kind, t.text))) {n : Nat} {x y : Tok} (hx : l[n]? = some x) (hy : m[n]? = some y) : x.kind = y.kind ∧ x.text = y.text := by
  have e := congrArg (fun k => k[n]?) h
  simp only [List.getElem?_map, hx, hy, Option.map_some, Option.some.injEq, Prod.mk.injEq] at e
  exact ⟨e.1.symm, e.2.symm⟩

theorem respaced_ok (l : List Int) (q : Option (Nat × Nat)) (note : List UInt8) (H : Heap) (hl : RowR H (fun x => [AT.int .i64 x]) 1 l q) : Sim Try.prog 6 [at' (.slice q l.length), at' (.str note)] H (fun u G => u = at' (.bool true) ∧ True) := by
  have hlen := pcs_len l
  refine Sim.of_tri Try.func6 rfl ?_
  show Tri Try.prog 85 _ _ _ _
  refine Tri.seq ?_
  refine Tri.region mixed eqsOk (eqs := eqs) ?_
  refine sO rfl rfl (oV rfl ?_)
  show Tri Try.prog 85 _ _ _ _
  refine Tri.has (l := [(0, _), (1, _), (4, _)]) ⟨rfl, rfl, rfl, trivial⟩ ?_
  refine Tri.seq ?_
  refine Tri.region mixed eqsOk (eqs := eqs) ?_
  refine sO rfl rfl (oV rfl ?_)
  refine sO rfl rfl (oF rfl (fnOk_of Try.func11 (by decide) rfl) (pieces_ok _ _ _ (by assumption)) ?_)
  refine sO rfl rfl (oC rfl (fnOk_of Try.func9 (by decide) rfl) (Scan_ok _ _) ?_)
  rintro u G ⟨a, rfl, hr, hk⟩
  obtain ⟨p, rfl, hr2⟩ := hr.r tokC_len
  refine sO rfl rfl (oV rfl ?_)
  refine sO rfl rfl (oV rfl ?_)
  refine sO rfl rfl (oV rfl ?_)
  refine sO rfl rfl (oAlloc (cs := [.int .i64 0, .int .i64 0]) rfl rfl ?_)
  refine sO rfl rfl (oV rfl ?_)
  refine sO rfl rfl (oStore (n := 2) (cs' := [_, _]) rfl rfl rfl (by repeat (first | assumption | exact Heap.push_new | exact Heap.set_newl (by first | (simp only [Heap.n_push, Heap.n_set]; omega) | exact Heap.get_lt (by assumption)) | refine Heap.push_old ?_ | refine Heap.set_old ?_ (by first | assumption | omega | (simp only [Heap.n_push, Heap.n_set]; omega)) (by first | (simp only [Heap.n_push, Heap.n_set]; omega) | exact Heap.get_lt (by assumption)))) rfl (Nat.le_of_ble_eq_true rfl) rfl rfl ?_)
  show Tri Try.prog 85 _ _ _ _
  refine Tri.has (l := [(0, _), (1, _), (4, _), (5, _), (6, _)]) ⟨rfl, rfl, rfl, rfl, rfl, trivial⟩ ?_
  refine Tri.seq ?_
  refine Tri.seq ?_
  refine Tri.region mixed eqsOk (eqs := eqs) ?_
  refine sO rfl rfl (oW (at' (.ptr (some (_, 0)))) rfl rfl ?_)
  refine sO rfl rfl (oLoad (x := .at _) rfl (by repeat (first | assumption | exact Heap.push_new | exact Heap.set_newl (by first | (simp only [Heap.n_push, Heap.n_set]; omega) | exact Heap.get_lt (by assumption)) | refine Heap.push_old ?_ | refine Heap.set_old ?_ (by first | assumption | omega | (simp only [Heap.n_push, Heap.n_set]; omega)) (by first | (simp only [Heap.n_push, Heap.n_set]; omega) | exact Heap.get_lt (by assumption)))) rfl ?_)
  refine sO rfl rfl (oNE rfl (fun h21 => ?_) (fun h21 => ?_))
  ·
    show Tri Try.prog 85 _ _ _ _
    refine Tri.has (l := [(0, _), (1, _), (4, _), (5, _), (6, _), (21, _)]) ⟨rfl, rfl, rfl, rfl, rfl, rfl, trivial⟩ ?_
    refine Tri.cond (t := true) rfl (fun _ => ?_) (fun h => Bool.noConfusion h)
    refine Tri.seq ?_
    refine Tri.region mixed eqsOk (eqs := eqs) ?_
    refine sO rfl rfl (oF rfl (fnOk_of Try.func3 (by decide) rfl) (examples_ok _) ?_)
    refine sO rfl rfl (oV rfl ?_)
    show Tri Try.prog 85 _ _ _ _
    refine Tri.has (l := [(0, _), (1, _), (4, _), (5, _), (6, _), (21, _)]) ⟨rfl, rfl, rfl, rfl, rfl, rfl, trivial⟩ ?_
    refine Tri.ret ?_
    refine ⟨trivial, _, rfl, ?_⟩
    exact ⟨rfl, trivial⟩
  ·
    show Tri Try.prog 85 _ _ _ _
    refine Tri.has (l := [(0, _), (1, _), (4, _), (5, _), (6, _), (21, _)]) ⟨rfl, rfl, rfl, rfl, rfl, rfl, trivial⟩ ?_
    refine Tri.cond (t := false) rfl (fun h => Bool.noConfusion h) (fun _ => ?_)
    refine Tri.skip ?_
    show Tri Try.prog 85 _ _ _ _
    refine Tri.has (l := [(0, _), (1, _), (4, _), (5, _), (6, _), (21, _)]) ⟨rfl, rfl, rfl, rfl, rfl, rfl, trivial⟩ ?_
    refine Tri.seq ?_
    refine Tri.region mixed eqsOk (eqs := eqs) ?_
    refine sO rfl rfl (oV rfl ?_)
    show Tri Try.prog 85 _ _ _ _
    refine Tri.has (l := [(0, _), (1, _), (4, _), (5, _), (6, _), (7, _), (21, _)]) ⟨rfl, rfl, rfl, rfl, rfl, rfl, rfl, trivial⟩ ?_
    refine Tri.seq ?_
    refine Tri.seq ?_
    refine Tri.region mixed eqsOk (eqs := eqs) ?_
    refine sO rfl rfl (oV rfl ?_)
    refine sO rfl rfl (oV rfl ?_)
    refine sO rfl rfl (oV rfl ?_)
    show Tri Try.prog 85 _ _ _ _
    refine Tri.has (l := [(0, _), (1, _), (4, _), (5, _), (6, _), (7, _), (21, _), (23, _), (24, _), (25, _)]) ⟨rfl, rfl, rfl, rfl, rfl, rfl, rfl, rfl, rfl, rfl, trivial⟩ ?_
    refine Tri.block ?_
    refine Tri.loop (fun k lk1 H1 => ∃ n : Nat, k = (scanS (pcs l)).1.length - n ∧ n ≤ (scanS (pcs l)).1.length ∧ Has lk1 [(1, at' (.str note)), (5, at' (.slice p (scanS (pcs l)).1.length)), (7, at' (.str (spaced ((scanS (pcs l)).1.take n)))), (23, at' (.slice p (scanS (pcs l)).1.length)), (24, at' (.int .i64 (scanS (pcs l)).1.length)), (25, at' (.int .i64 n))] ∧ RowR H1 tokC 3 (scanS (pcs l)).1 p) ((scanS (pcs l)).1.length) (⟨0, rfl, by omega, ⟨rfl, rfl, rfl, rfl, rfl, rfl, trivial⟩, hr2.kp (by repeat (first | assumption | exact Kp.refl | refine Kp.push ?_ | refine Kp.set ?_ (by first | (simp only [Heap.n_push, Heap.n_set]; omega) | exact Heap.get_lt (by assumption)) (.inr (by first | omega | (simp only [Heap.n_push, Heap.n_set]; omega)))))⟩) ?_
    rintro k lk1 H1 ⟨n, hk2, hn, hh, hr5⟩
    refine Tri.has hh ?_
    have hok : (scanS (pcs l)).2.1 = 0 := by omega
    have htl := toks_le hok
    have hsl := spaced_len _ 0 (scanS_chain hok) (Nat.zero_le _)
    refine Tri.seq ?_
    refine Tri.region mixed eqsOk (eqs := eqs) ?_
    refine sO rfl rfl (oP rfl (fun h26 => ?_) (fun h26 => ?_))
    ·
      show Tri Try.prog 85 _ _ _ _
      refine Tri.has (l := [(1, _), (5, _), (7, _), (23, _), (24, _), (25, _), (26, _)]) ⟨rfl, rfl, rfl, rfl, rfl, rfl, rfl, trivial⟩ ?_
      refine Tri.seq ?_
      refine Tri.cond (t := true) rfl (fun _ => ?_) (fun h => Bool.noConfusion h)
      refine Tri.skip ?_
      show Tri Try.prog 85 _ _ _ _
      refine Tri.has (l := [(1, _), (5, _), (7, _), (23, _), (24, _), (25, _), (26, _)]) ⟨rfl, rfl, rfl, rfl, rfl, rfl, rfl, trivial⟩ ?_
      refine Tri.seq ?_
      refine Tri.block ?_
      refine Tri.seq ?_
      refine Tri.region mixed eqsOk (eqs := eqs) ?_
      obtain ⟨x, hx⟩ : ∃ x, (scanS (pcs l)).1[n]? = some x := ⟨_, List.getElem?_eq_getElem (by omega)⟩
      obtain ⟨id, o, T, kk, cs, rfl, hg, hle, hc⟩ := hr5.at tokC_len hx
      refine sO rfl rfl (oIA (z := 3) rfl rfl rfl rfl (by omega) ?_)
      refine sO rfl rfl (oLoad (x := .agg (tokC x)) rfl (by repeat (first | assumption | exact Heap.push_new | exact Heap.set_newl (by first | (simp only [Heap.n_push, Heap.n_set]; omega) | exact Heap.get_lt (by assumption)) | refine Heap.push_old ?_ | refine Heap.set_old ?_ (by first | assumption | omega | (simp only [Heap.n_push, Heap.n_set]; omega)) (by first | (simp only [Heap.n_push, Heap.n_set]; omega) | exact Heap.get_lt (by assumption)))) (part_all hc hle rfl rfl rfl) ?_)
      refine sO rfl rfl (oAlloc (cs := [.int .i64 0, .str [], .int .i64 0]) rfl rfl ?_)
      refine sO rfl rfl (oStore (n := 3) (cs' := [_, _, _]) rfl rfl rfl (by repeat (first | assumption | exact Heap.push_new | exact Heap.set_newl (by first | (simp only [Heap.n_push, Heap.n_set]; omega) | exact Heap.get_lt (by assumption)) | refine Heap.push_old ?_ | refine Heap.set_old ?_ (by first | assumption | omega | (simp only [Heap.n_push, Heap.n_set]; omega)) (by first | (simp only [Heap.n_push, Heap.n_set]; omega) | exact Heap.get_lt (by assumption)))) rfl (Nat.le_of_ble_eq_true rfl) rfl rfl ?_)
      show Tri Try.prog 85 _ _ _ _
      refine Tri.has (l := [(1, _), (5, _), (7, _), (9, _), (23, _), (24, _), (25, _), (26, _)]) ⟨rfl, rfl, rfl, rfl, rfl, rfl, rfl, rfl, trivial⟩ ?_
      refine Tri.region mixed eqsOk (eqs := eqs) ?_
      refine sO rfl rfl (oV rfl ?_)
      have hsn := spaced_snoc hx
      have hst := spaced_take (scanS (pcs l)).1 (n + 1)
      have hsn2 := congrArg List.length hsn
      simp only [List.length_append, List.length_cons, List.length_nil] at hsn2
      refine sO rfl rfl (oCat rfl rfl (by (show (spaced ((scanS (pcs l)).1.take n)).length + 1 ≤ _); omega) ?_)
      refine sO rfl rfl (oW (at' (.ptr (some (_, 1)))) rfl rfl ?_)
      refine sO rfl rfl (oLoad (x := .at _) rfl (by repeat (first | assumption | exact Heap.push_new | exact Heap.set_newl (by first | (simp only [Heap.n_push, Heap.n_set]; omega) | exact Heap.get_lt (by assumption)) | refine Heap.push_old ?_ | refine Heap.set_old ?_ (by first | assumption | omega | (simp only [Heap.n_push, Heap.n_set]; omega)) (by first | (simp only [Heap.n_push, Heap.n_set]; omega) | exact Heap.get_lt (by assumption)))) rfl ?_)
      refine sO rfl rfl (oCat rfl rfl (by simp only [List.length_append]; (show (spaced ((scanS (pcs l)).1.take n)).length + 1 + x.text.length ≤ _); omega) ?_)
      refine sO rfl rfl (oV rfl ?_)
      show Tri Try.prog 85 _ _ _ _
      refine Tri.has (l := [(1, _), (5, _), (7, _), (9, _), (23, _), (24, _), (25, _), (26, _)]) ⟨rfl, rfl, rfl, rfl, rfl, rfl, rfl, rfl, trivial⟩ ?_
      refine Tri.region mixed eqsOk (eqs := eqs) ?_
      refine sO rfl rfl (oAdd (m := 1) rfl (by omega) ?_)
      refine sO rfl rfl (oV rfl ?_)
      refine ⟨(scanS (pcs l)).1.length - (n + 1), by omega, n + 1, rfl, by omega, ⟨rfl, rfl, ?_, rfl, rfl, rfl, trivial⟩, hr5.kp (by repeat (first | assumption | exact Kp.refl | refine Kp.push ?_ | refine Kp.set ?_ (by first | (simp only [Heap.n_push, Heap.n_set]; omega) | exact Heap.get_lt (by assumption)) (.inr (by first | omega | (simp only [Heap.n_push, Heap.n_set]; omega)))))⟩
      rw [hsn]; rfl
    ·
      show Tri Try.prog 85 _ _ _ _
      refine Tri.has (l := [(1, _), (5, _), (7, _), (23, _), (24, _), (25, _), (26, _)]) ⟨rfl, rfl, rfl, rfl, rfl, rfl, rfl, trivial⟩ ?_
      refine Tri.seq ?_
      refine Tri.cond (t := false) rfl (fun h => Bool.noConfusion h) (fun _ => ?_)
      refine Tri.exit ?_
      show Tri Try.prog 85 _ _ _ _
      refine Tri.has (l := [(1, _), (5, _), (7, _), (23, _), (24, _), (25, _), (26, _)]) ⟨rfl, rfl, rfl, rfl, rfl, rfl, rfl, trivial⟩ ?_
      refine Tri.seq ?_
      refine Tri.region mixed eqsOk (eqs := eqs) ?_
      have hok : (scanS (pcs l)).2.1 = 0 := by omega
      have htl := toks_le hok
      have hsl := spaced_len _ 0 (scanS_chain hok) (Nat.zero_le _)
      have hll := line_len note 0 (by omega)
      rw [List.take_of_length_le (show (scanS (pcs l)).1.length ≤ n from by omega)]
      refine sO rfl rfl (oV rfl ?_)
      refine sO rfl rfl (oCat rfl rfl (by (show (spaced (scanS (pcs l)).1).length + 3 ≤ _); omega) ?_)
      refine sO rfl rfl (oV rfl ?_)
      refine sO rfl rfl (oF rfl (fnOk_of Try.func15 (by decide) rfl) (line_ok _ _) ?_)
      refine sO rfl rfl (oCat rfl rfl (by simp only [List.length_append]; (show (spaced (scanS (pcs l)).1).length + 3 + (lineG 0 note).length ≤ _); omega) ?_)
      refine sO rfl rfl (oC rfl (fnOk_of Try.func9 (by decide) rfl) (Scan_ok _ _) ?_)
      rintro u G2 ⟨a2, rfl, hr3, hk3⟩
      obtain ⟨m, hm1, hm2⟩ := respaced hlen hok note
      rw [hm1] at hr3 ⊢
      obtain ⟨p2, rfl, hr4⟩ := hr3.r tokC_len
      have hml : m.length = (scanS (pcs l)).1.length := by have := congrArg List.length hm2; simpa using this
      refine sO rfl rfl (oV rfl ?_)
      refine sO rfl rfl (oV rfl ?_)
      refine sO rfl rfl (oV rfl ?_)
      refine sO rfl rfl (oAlloc (cs := [.int .i64 0, .int .i64 0]) rfl rfl ?_)
      refine sO rfl rfl (oV rfl ?_)
      refine sO rfl rfl (oStore (n := 2) (cs' := [_, _]) rfl rfl rfl (by repeat (first | assumption | exact Heap.push_new | exact Heap.set_newl (by first | (simp only [Heap.n_push, Heap.n_set]; omega) | exact Heap.get_lt (by assumption)) | refine Heap.push_old ?_ | refine Heap.set_old ?_ (by first | assumption | omega | (simp only [Heap.n_push, Heap.n_set]; omega)) (by first | (simp only [Heap.n_push, Heap.n_set]; omega) | exact Heap.get_lt (by assumption)))) rfl (Nat.le_of_ble_eq_true rfl) rfl rfl ?_)
      show Tri Try.prog 85 _ _ _ _
      refine Tri.has (l := [(1, _), (5, _), (7, _), (10, _), (11, _), (23, _), (24, _), (25, _), (26, _)]) ⟨rfl, rfl, rfl, rfl, rfl, rfl, rfl, rfl, rfl, trivial⟩ ?_
      refine Tri.seq ?_
      refine Tri.seq ?_
      refine Tri.region mixed eqsOk (eqs := eqs) ?_
      refine sO rfl rfl (oW (at' (.ptr (some (_, 0)))) rfl rfl ?_)
      refine sO rfl rfl (oLoad (x := .at _) rfl (by repeat (first | assumption | exact Heap.push_new | exact Heap.set_newl (by first | (simp only [Heap.n_push, Heap.n_set]; omega) | exact Heap.get_lt (by assumption)) | refine Heap.push_old ?_ | refine Heap.set_old ?_ (by first | assumption | omega | (simp only [Heap.n_push, Heap.n_set]; omega)) (by first | (simp only [Heap.n_push, Heap.n_set]; omega) | exact Heap.get_lt (by assumption)))) rfl ?_)
      refine sO rfl rfl (oNE rfl (fun h46 => (h46 rfl).elim) (fun h46 => ?_))
      refine sO rfl rfl (oV rfl ?_)
      refine sO rfl rfl (oV rfl ?_)
      refine sO rfl rfl (oV rfl ?_)
      refine sO rfl rfl (oV rfl ?_)
      refine sO rfl rfl (oV rfl ?_)
      refine sO rfl rfl (oNE rfl (fun h52 => (h52 (by (show ((scanS (pcs l)).1.length : Int) = (m.length : Int)); omega)).elim) (fun h52 => ?_))
      refine sO rfl rfl (oV rfl ?_)
      show Tri Try.prog 85 _ _ _ _
      refine Tri.has (l := [(1, _), (5, _), (7, _), (10, _), (11, _), (23, _), (24, _), (25, _), (26, _), (53, _)]) ⟨rfl, rfl, rfl, rfl, rfl, rfl, rfl, rfl, rfl, rfl, trivial⟩ ?_
      refine Tri.cond (t := false) rfl (fun h => Bool.noConfusion h) (fun _ => ?_)
      refine Tri.skip ?_
      show Tri Try.prog 85 _ _ _ _
      refine Tri.has (l := [(1, _), (5, _), (7, _), (10, _), (11, _), (23, _), (24, _), (25, _), (26, _), (53, _)]) ⟨rfl, rfl, rfl, rfl, rfl, rfl, rfl, rfl, rfl, rfl, trivial⟩ ?_
      refine Tri.seq ?_
      refine Tri.seq ?_
      refine Tri.region mixed eqsOk (eqs := eqs) ?_
      refine sO rfl rfl (oV rfl ?_)
      refine sO rfl rfl (oV rfl ?_)
      refine sO rfl rfl (oV rfl ?_)
      show Tri Try.prog 85 _ _ _ _
      refine Tri.has (l := [(1, _), (5, _), (7, _), (10, _), (11, _), (23, _), (24, _), (25, _), (26, _), (53, _), (55, _), (56, _)]) ⟨rfl, rfl, rfl, rfl, rfl, rfl, rfl, rfl, rfl, rfl, rfl, rfl, trivial⟩ ?_
      refine Tri.block ?_
      refine Tri.loop (fun k lk1 H1 => ∃ n : Nat, k = (scanS (pcs l)).1.length - n ∧ n ≤ (scanS (pcs l)).1.length ∧ Has lk1 [(5, at' (.slice p (scanS (pcs l)).1.length)), (10, at' (.slice p2 m.length)), (55, at' (.int .i64 (scanS (pcs l)).1.length)), (56, at' (.int .i64 n))] ∧ RowR H1 tokC 3 (scanS (pcs l)).1 p ∧ RowR H1 tokC 3 m p2) ((scanS (pcs l)).1.length) (⟨0, rfl, by omega, ⟨rfl, rfl, rfl, rfl, trivial⟩, (hr5.kp hk3).kp (by repeat (first | assumption | exact Kp.refl | refine Kp.push ?_ | refine Kp.set ?_ (by first | (simp only [Heap.n_push, Heap.n_set]; omega) | exact Heap.get_lt (by assumption)) (.inr (by first | omega | (simp only [Heap.n_push, Heap.n_set]; omega))))), hr4.kp (by repeat (first | assumption | exact Kp.refl | refine Kp.push ?_ | refine Kp.set ?_ (by first | (simp only [Heap.n_push, Heap.n_set]; omega) | exact Heap.get_lt (by assumption)) (.inr (by first | omega | (simp only [Heap.n_push, Heap.n_set]; omega)))))⟩) ?_
      rintro k lk1 H1 ⟨n, hk4, hn, hh, hr5, hr6⟩
      refine Tri.has hh ?_
      refine Tri.seq ?_
      refine Tri.region mixed eqsOk (eqs := eqs) ?_
      refine sO rfl rfl (oP rfl (fun h57 => ?_) (fun h57 => ?_))
      ·
        show Tri Try.prog 85 _ _ _ _
        refine Tri.has (l := [(5, _), (10, _), (55, _), (56, _), (57, _)]) ⟨rfl, rfl, rfl, rfl, rfl, trivial⟩ ?_
        refine Tri.seq ?_
        refine Tri.cond (t := true) rfl (fun _ => ?_) (fun h => Bool.noConfusion h)
        refine Tri.skip ?_
        show Tri Try.prog 85 _ _ _ _
        refine Tri.has (l := [(5, _), (10, _), (55, _), (56, _), (57, _)]) ⟨rfl, rfl, rfl, rfl, rfl, trivial⟩ ?_
        refine Tri.seq ?_
        refine Tri.block ?_
        refine Tri.seq ?_
        refine Tri.region mixed eqsOk (eqs := eqs) ?_
        refine sO rfl rfl (oV rfl ?_)
        refine sO rfl rfl (oV rfl ?_)
        show Tri Try.prog 85 _ _ _ _
        refine Tri.has (l := [(5, _), (10, _), (12, _), (55, _), (56, _), (57, _)]) ⟨rfl, rfl, rfl, rfl, rfl, rfl, trivial⟩ ?_
        refine Tri.seq ?_
        refine Tri.drawn1 mixed eqsOk (eqs := eqs) ⟨[0, 0, 3, 7, 15, 0, 0, 96, 224, 480, 1023, 2047, 4095, 4095, 16383, 32767, 65535, 4095, 4095, 397311, 921599, 1970175, 4194303, 8388607], [0, 0, 0, 0, 0, 0, 0, 0, 0, 0, 0, 0, 0, 0, 0, 0, 0, 0, 0, 0, 0, 0, 0, 0], 1, [0, 1, 2, 3, 4, 5, 6, 7, 8, 9, 10, 11, 12, 13, 14, 15, 16, 17, 18, 19, 20, 21, 22, 23]⟩ (by decide +kernel) rfl ?_
        refine dL rfl rfl rfl rfl (oV rfl ?_)
        refine dL rfl rfl rfl rfl (oV rfl ?_)
        obtain ⟨x, hx⟩ : ∃ x, (scanS (pcs l)).1[n]? = some x := ⟨_, List.getElem?_eq_getElem (by omega)⟩
        obtain ⟨id, o, T, kk, cs, rfl, hg, hle, hc⟩ := hr5.at tokC_len hx
        obtain ⟨y, hy⟩ : ∃ y, m[n]? = some y := ⟨_, List.getElem?_eq_getElem (by omega)⟩
        obtain ⟨id2, o2, T2, kk2, cs2, rfl, hg2, hle2, hc2⟩ := hr6.at tokC_len hy
        have hxy := map_at hm2 hx hy
        refine dL rfl rfl rfl rfl (oIA (z := 3) rfl rfl rfl rfl (by omega) ?_)
        refine dL rfl rfl rfl rfl (oW (at' (.ptr (some (_, _ + 0)))) rfl rfl ?_)
        refine dR0 rfl rfl rfl rfl (op_load_at (x := .at (.int .i64 x.kind)) rfl (by repeat (first | assumption | exact Heap.push_new | exact Heap.set_newl (by first | (simp only [Heap.n_push, Heap.n_set]; omega) | exact Heap.get_lt (by assumption)) | refine Heap.push_old ?_ | refine Heap.set_old ?_ (by first | assumption | omega | (simp only [Heap.n_push, Heap.n_set]; omega)) (by first | (simp only [Heap.n_push, Heap.n_set]; omega) | exact Heap.get_lt (by assumption)))) (part_cell 0 hc (by omega) rfl rfl rfl rfl)) ?_
        refine dL rfl rfl rfl rfl (oV rfl ?_)
        refine dL rfl rfl rfl rfl (oV rfl ?_)
        refine dL rfl rfl rfl rfl (oIA (z := 3) rfl rfl rfl rfl (by omega) ?_)
        refine dL rfl rfl rfl rfl (oW (at' (.ptr (some (_, _ + 0)))) rfl rfl ?_)
        refine dR0 rfl rfl rfl rfl (op_load_at (x := .at (.int .i64 y.kind)) rfl (by repeat (first | assumption | exact Heap.push_new | exact Heap.set_newl (by first | (simp only [Heap.n_push, Heap.n_set]; omega) | exact Heap.get_lt (by assumption)) | refine Heap.push_old ?_ | refine Heap.set_old ?_ (by first | assumption | omega | (simp only [Heap.n_push, Heap.n_set]; omega)) (by first | (simp only [Heap.n_push, Heap.n_set]; omega) | exact Heap.get_lt (by assumption)))) (part_cell 0 hc2 (by omega) rfl rfl rfl rfl)) ?_
        refine dL rfl rfl rfl rfl (oNE rfl (fun h69 => (h69 (by rw [hxy.1])).elim) (fun h69 => ?_))
        refine dL rfl rfl rfl rfl (oV rfl ?_)
        refine dL rfl rfl rfl rfl (oV rfl ?_)
        refine dL rfl rfl rfl rfl (oV rfl ?_)
        refine dL rfl rfl rfl rfl (oIA (z := 3) rfl rfl rfl rfl (by omega) ?_)
        refine dL rfl rfl rfl rfl (oW (at' (.ptr (some (_, _ + 1)))) rfl rfl ?_)
        refine dR0 rfl rfl rfl rfl (op_load_at (x := .at (.str x.text)) rfl (by repeat (first | assumption | exact Heap.push_new | exact Heap.set_newl (by first | (simp only [Heap.n_push, Heap.n_set]; omega) | exact Heap.get_lt (by assumption)) | refine Heap.push_old ?_ | refine Heap.set_old ?_ (by first | assumption | omega | (simp only [Heap.n_push, Heap.n_set]; omega)) (by first | (simp only [Heap.n_push, Heap.n_set]; omega) | exact Heap.get_lt (by assumption)))) (part_cell 1 hc (by omega) rfl rfl rfl rfl)) ?_
        refine dL rfl rfl rfl rfl (oV rfl ?_)
        refine dL rfl rfl rfl rfl (oV rfl ?_)
        refine dL rfl rfl rfl rfl (oIA (z := 3) rfl rfl rfl rfl (by omega) ?_)
        refine dL rfl rfl rfl rfl (oW (at' (.ptr (some (_, _ + 1)))) rfl rfl ?_)
        refine dR0 rfl rfl rfl rfl (op_load_at (x := .at (.str y.text)) rfl (by repeat (first | assumption | exact Heap.push_new | exact Heap.set_newl (by first | (simp only [Heap.n_push, Heap.n_set]; omega) | exact Heap.get_lt (by assumption)) | refine Heap.push_old ?_ | refine Heap.set_old ?_ (by first | assumption | omega | (simp only [Heap.n_push, Heap.n_set]; omega)) (by first | (simp only [Heap.n_push, Heap.n_set]; omega) | exact Heap.get_lt (by assumption)))) (part_cell 1 hc2 (by omega) rfl rfl rfl rfl)) ?_
        refine dL rfl rfl rfl rfl (oSN rfl (fun h81 => (h81 hxy.2).elim) (fun h81 => ?_))
        refine dL rfl rfl rfl rfl (oV rfl ?_)
        refine dE0 ?_
        show Tri Try.prog 85 _ _ _ _
        refine Tri.has (l := [(5, _), (10, _), (12, _), (55, _), (56, _), (57, _), (82, _)]) ⟨rfl, rfl, rfl, rfl, rfl, rfl, rfl, trivial⟩ ?_
        refine Tri.cond (t := false) rfl (fun h => Bool.noConfusion h) (fun _ => ?_)
        refine Tri.skip ?_
        show Tri Try.prog 85 _ _ _ _
        refine Tri.has (l := [(5, _), (10, _), (12, _), (55, _), (56, _), (57, _), (82, _)]) ⟨rfl, rfl, rfl, rfl, rfl, rfl, rfl, trivial⟩ ?_
        refine Tri.region mixed eqsOk (eqs := eqs) ?_
        refine sO rfl rfl (oAdd (m := 1) rfl (by omega) ?_)
        refine sO rfl rfl (oV rfl ?_)
        refine ⟨(scanS (pcs l)).1.length - (n + 1), by omega, n + 1, rfl, by omega, ⟨rfl, rfl, rfl, rfl, trivial⟩, hr5.kp (by repeat (first | assumption | exact Kp.refl | refine Kp.push ?_ | refine Kp.set ?_ (by first | (simp only [Heap.n_push, Heap.n_set]; omega) | exact Heap.get_lt (by assumption)) (.inr (by first | omega | (simp only [Heap.n_push, Heap.n_set]; omega))))), hr6.kp (by repeat (first | assumption | exact Kp.refl | refine Kp.push ?_ | refine Kp.set ?_ (by first | (simp only [Heap.n_push, Heap.n_set]; omega) | exact Heap.get_lt (by assumption)) (.inr (by first | omega | (simp only [Heap.n_push, Heap.n_set]; omega)))))⟩
      ·
        show Tri Try.prog 85 _ _ _ _
        refine Tri.has (l := [(5, _), (10, _), (55, _), (56, _), (57, _)]) ⟨rfl, rfl, rfl, rfl, rfl, trivial⟩ ?_
        refine Tri.seq ?_
        refine Tri.cond (t := false) rfl (fun h => Bool.noConfusion h) (fun _ => ?_)
        refine Tri.exit ?_
        show Tri Try.prog 85 _ _ _ _
        refine Tri.has (l := [(5, _), (10, _), (55, _), (56, _), (57, _)]) ⟨rfl, rfl, rfl, rfl, rfl, trivial⟩ ?_
        refine Tri.seq ?_
        refine Tri.region mixed eqsOk (eqs := eqs) ?_
        refine sO rfl rfl (oF rfl (fnOk_of Try.func3 (by decide) rfl) (examples_ok _) ?_)
        refine sO rfl rfl (oV rfl ?_)
        show Tri Try.prog 85 _ _ _ _
        refine Tri.has (l := [(4, _), (5, _), (10, _), (55, _), (56, _), (57, _)]) ⟨rfl, rfl, rfl, rfl, rfl, rfl, trivial⟩ ?_
        refine Tri.ret ?_
        refine ⟨trivial, _, rfl, ?_⟩
        exact ⟨rfl, trivial⟩
end Go.Proofs.Yteknebkgpehphaa
