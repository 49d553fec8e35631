/-
  CONTRACTS of the checker: names that come twice, sets of names (printed by wip/tools/walk.py from wip/specs/chkE.py). Written in this session.
-/
import Derived.Test.YtceakkomleaibaaCd
namespace Go.Proofs.Ytceakkomleaibaa
open Go.Ea
set_option maxRecDepth 100000
set_option linter.unusedVariables false
set_option linter.unusedSimpArgs false

theorem drop_row {β : Type} {l : List β} {j : Nat} {x : β} (h : l[j]? = some x) : l.drop j = x :: l.drop (j + 1) := by
  obtain ⟨hj, rfl⟩ := List.getElem?_eq_some_iff.1 h
  exact List.drop_eq_getElem_cons hj
theorem dup_cons (seen : List (List UInt8)) (s : List UInt8) (r : List (List UInt8)) : dup seen (s :: r) = (decide (s ∈ seen) || dup (s :: seen) r) := rfl
def bo_ (b : Bool) : AV := at' (.bool b)
/-- Which texts a map holds. -/
def HoldsT (es : Ents) (seen : List (List UInt8)) : Prop := SetE es ∧ ∀ s, (lkM es s).isSome = decide (s ∈ seen)
theorem HoldsT.nil : HoldsT [] [] := ⟨fun _ h => (by cases h), fun s => by simp [lk_nil]⟩
theorem HoldsT.up {es : Ents} {seen : List (List UInt8)} (h : HoldsT es seen) (s : List UInt8) : HoldsT (upM es s (.at (.bool true))) (s :: seen) :=
  ⟨h.1.up s, fun t => by
    rw [upM_isSome, h.2 t]
    by_cases e : t = s
    · simp [e]
    · simp [e]⟩

theorem hasDuplicate_ok (rows : List (List (List UInt8))) (p : Option (Nat × Nat)) (H : Heap) (hr : RowQ H 1 (LRw H) rows p) (hb : rows.length < 2305843009213693952) (hb2 : ∀ r ∈ rows, r.length < 2305843009213693952) : Sim Try.prog 38 [at' (.slice p rows.length)] H (fun u G => u = at' (.bool (dup [] rows.flatten)) ∧ G = H) := by
 refine Sim.trim ?_
 refine Sim.of_tri Try.func38 rfl ?_
 show TrP 28 _ _ _ _
 refine Tri.seq ?_
 refine tR ?_
 refine sV rfl rfl rfl ?_
 show TrP 28 _ _ _ _
 refine tH [(0, _), (2, _)] ?_
 refine Tri.seq ?_
 refine tR ?_
 iterate 2 refine sV rfl rfl rfl ?_
 show TrP 28 _ _ _ _
 refine tH [(0, _), (2, _), (3, _)] ?_
 refine Tri.seq ?_
 refine Tri.seq ?_
 refine tR ?_
 iterate 3 refine sV rfl rfl rfl ?_
 show TrP 28 _ _ _ _
 refine tH [(0, _), (2, _), (3, _), (9, _), (10, _), (11, _)] ?_
 refine Tri.block ?_
 refine Tri.loop (fun k lk1 H1 => ∃ j : Nat, k = rows.length - j ∧ j ≤ rows.length ∧ Has lk1 [(3, at' (.map (some H.n))), (9, at' (.slice p rows.length)), (10, at' (.int .i64 rows.length)), (11, at' (.int .i64 j))] ∧ ∃ (seen : List (List UInt8)) (es : Ents), dup seen (rows.drop j).flatten = dup [] rows.flatten ∧ HoldsT es seen ∧ Kp [] H H1 ∧ H1.get H.n = some (.map (ents es))) (rows.length) (⟨0, rfl, by omega, ⟨rfl, rfl, rfl, rfl, trivial⟩, [], [], by rw [List.drop_zero], HoldsT.nil, kP, gG⟩) ?_
 rintro k3 lk3 H3 ⟨j, hk3, hj, hh, seen, es, he, hH, hkp, hm⟩
 refine Tri.has hh ?_
 refine Tri.seq ?_
 refine tR ?_
 refine sO rfl rfl (oP rfl (fun h12 => ?_) (fun h12 => ?_))
 ·
  show TrP 28 _ _ _ _
  refine tH [(3, _), (9, _), (10, _), (11, _), (12, _)] ?_
  refine Tri.seq ?_
  refine tT rfl ?_
  refine Tri.skip ?_
  show TrP 28 _ _ _ _
  refine tH [(3, _), (9, _), (10, _), (11, _), (12, _)] ?_
  refine Tri.seq ?_
  refine Tri.block ?_
  refine Tri.seq ?_
  refine tR ?_
  obtain ⟨r, hr0⟩ : ∃ r, rows[j]? = some r := ⟨_, List.getElem?_eq_getElem (by omega)⟩
  obtain ⟨id, o, T, q, c, rfl, hg0, hle, q2, hcs, hrow⟩ := hr.at hr0
  have hg := hkp.get hg0 rfl
  have hrl := hb2 r (List.mem_of_getElem? hr0)
  refine sO rfl rfl (oIA (z := 1) rfl rfl rfl rfl (by omega) ?_)
  refine sO rfl rfl (oLoad (x := .at (.slice q2 r.length)) rfl gG (part_one hcs rfl rfl rfl) ?_)
  refine sV rfl rfl rfl ?_
  show TrP 28 _ _ _ _
  refine tH [(3, _), (5, _), (9, _), (10, _), (11, _), (12, _)] ?_
  refine Tri.seq ?_
  refine tR ?_
  iterate 3 refine sV rfl rfl rfl ?_
  show TrP 28 _ _ _ _
  refine tH [(3, _), (5, _), (9, _), (10, _), (11, _), (12, _), (15, _), (16, _), (17, _)] ?_
  refine Tri.block ?_
  refine Tri.loop (fun k lk1 H1 => ∃ i : Nat, k = r.length - i ∧ i ≤ r.length ∧ Has lk1 [(3, at' (.map (some H.n))), (9, at' (.slice (some (id, o)) rows.length)), (10, at' (.int .i64 rows.length)), (11, at' (.int .i64 j)), (15, at' (.slice q2 r.length)), (16, at' (.int .i64 r.length)), (17, at' (.int .i64 i))] ∧ ∃ (seen : List (List UInt8)) (es : Ents), dup seen (r.drop i ++ (rows.drop (j + 1)).flatten) = dup [] rows.flatten ∧ HoldsT es seen ∧ Kp [] H H1 ∧ H1.get H.n = some (.map (ents es))) (r.length) (⟨0, rfl, by omega, ⟨rfl, rfl, rfl, rfl, rfl, rfl, rfl, trivial⟩, seen, es, by rw [List.drop_zero, ← he, drop_row hr0, List.flatten_cons], hH, hkp, hm⟩) ?_
  rintro k6 lk6 H6 ⟨i, hk6, hi, hh, seen, es, he, hH, hkp, hm⟩
  refine Tri.has hh ?_
  refine Tri.seq ?_
  refine tR ?_
  refine sO rfl rfl (oP rfl (fun h18 => ?_) (fun h18 => ?_))
  ·
   show TrP 28 _ _ _ _
   refine tH [(3, _), (9, _), (10, _), (11, _), (15, _), (16, _), (17, _), (18, _)] ?_
   refine Tri.seq ?_
   refine tT rfl ?_
   refine Tri.skip ?_
   show TrP 28 _ _ _ _
   refine tH [(3, _), (9, _), (10, _), (11, _), (15, _), (16, _), (17, _), (18, _)] ?_
   refine Tri.seq ?_
   refine Tri.block ?_
   refine Tri.seq ?_
   refine tR ?_
   obtain ⟨s, hs0⟩ : ∃ s, r[i]? = some s := ⟨_, List.getElem?_eq_getElem (by omega)⟩
   obtain ⟨id2, o2, T2, q3, c2, rfl, hg20, hle2, hcs2⟩ := hrow.at hs0
   have hg2 := hkp.get hg20 rfl
   refine sO rfl rfl (oIA (z := 1) rfl rfl rfl rfl (by omega) ?_)
   refine sO rfl rfl (oLoad (x := .at (.str s)) rfl gG (part_one hcs2 rfl rfl rfl) ?_)
   refine sV rfl rfl rfl ?_
   show TrP 28 _ _ _ _
   refine tH [(3, _), (7, _), (9, _), (10, _), (11, _), (15, _), (16, _), (17, _), (18, _)] ?_
   refine Tri.seq ?_
   refine Tri.seq ?_
   refine tR ?_
   iterate 2 refine sV rfl rfl rfl ?_
   refine sO rfl rfl (oLookB rfl rfl rfl rfl rfl hm hH.1 (fun h23 => ?_) (fun h23 => ?_))
   ·
    rw [hH.2 s] at h23
    rw [drop_row hs0, List.cons_append, dup_cons, h23] at he
    show TrP 28 _ _ _ _
    refine tH [(3, _), (7, _), (9, _), (10, _), (11, _), (15, _), (16, _), (17, _), (18, _), (23, _)] ?_
    refine tT rfl ?_
    refine Tri.seq ?_
    refine tR ?_
    refine sV rfl rfl rfl ?_
    show TrP 28 _ _ _ _
    refine tH [(2, _), (3, _), (7, _), (9, _), (10, _), (11, _), (15, _), (16, _), (17, _), (18, _), (23, _)] ?_
    refine Tri.ret ?_
    refine ⟨trivial, _, rfl, ?_⟩
    refine ⟨hkp, rfl, congrArg bo_ ?_⟩
    rw [← he]; rfl
   ·
    rw [hH.2 s] at h23
    rw [drop_row hs0, List.cons_append, dup_cons, h23] at he
    show TrP 28 _ _ _ _
    refine tH [(3, _), (7, _), (9, _), (10, _), (11, _), (15, _), (16, _), (17, _), (18, _), (23, _)] ?_
    refine tF rfl ?_
    refine Tri.skip ?_
    show TrP 28 _ _ _ _
    refine tH [(3, _), (7, _), (9, _), (10, _), (11, _), (15, _), (16, _), (17, _), (18, _), (23, _)] ?_
    refine tR ?_
    iterate 2 refine sV rfl rfl rfl ?_
    refine sO rfl rfl (oMapUp rfl rfl rfl rfl rfl hm ?_)
    show TrP 28 _ _ _ _
    refine tH [(3, _), (7, _), (9, _), (10, _), (11, _), (15, _), (16, _), (17, _), (18, _), (23, _)] ?_
    refine tR ?_
    refine sO rfl rfl (oAdd (m := 1) rfl (by omega) ?_)
    refine sV rfl rfl rfl ?_
    exact ⟨r.length - (i + 1), by omega, i + 1, rfl, by omega, ⟨rfl, rfl, rfl, rfl, rfl, rfl, rfl, trivial⟩, s :: seen, _, he, hH.up s, (hkp.set (Heap.get_lt hm) (.inr (by omega))), Heap.set_newl (Heap.get_lt hm)⟩
  ·
   show TrP 28 _ _ _ _
   refine tH [(3, _), (9, _), (10, _), (11, _), (15, _), (16, _), (17, _), (18, _)] ?_
   refine Tri.seq ?_
   refine tF rfl ?_
   refine Tri.exit ?_
   show TrP 28 _ _ _ _
   refine tH [(3, _), (9, _), (10, _), (11, _), (15, _), (16, _), (17, _), (18, _)] ?_
   refine tR ?_
   refine sO rfl rfl (oAdd (m := 1) rfl (by omega) ?_)
   refine sV rfl rfl rfl ?_
   rw [show i = r.length from by omega, List.drop_length, List.nil_append] at he
   exact ⟨rows.length - (j + 1), by omega, j + 1, rfl, by omega, ⟨rfl, rfl, rfl, rfl, trivial⟩, seen, es, he, hH, hkp, hm⟩
 ·
  show TrP 28 _ _ _ _
  refine tH [(3, _), (9, _), (10, _), (11, _), (12, _)] ?_
  refine Tri.seq ?_
  refine tF rfl ?_
  refine Tri.exit ?_
  show TrP 28 _ _ _ _
  refine tH [(3, _), (9, _), (10, _), (11, _), (12, _)] ?_
  refine Tri.seq ?_
  refine tR ?_
  refine sV rfl rfl rfl ?_
  show TrP 28 _ _ _ _
  refine tH [(2, _), (3, _), (9, _), (10, _), (11, _), (12, _)] ?_
  refine Tri.ret ?_
  refine ⟨trivial, _, rfl, ?_⟩
  rw [show j = rows.length from by omega, List.drop_length] at he
  refine ⟨hkp, rfl, congrArg bo_ ?_⟩
  rw [← he]; rfl
theorem set_ok (rows : List (List (List UInt8))) (p : Option (Nat × Nat)) (H : Heap) (hr : RowQ H 1 (LRw H) rows p) (hb : rows.length < 2305843009213693952) (hb2 : ∀ r ∈ rows, r.length < 2305843009213693952) : Sim Try.prog 39 [at' (.slice p rows.length)] H (fun u G => ∃ m es seen, u = at' (.map (some m)) ∧ H.n ≤ m ∧ G.get m = some (.map (ents es)) ∧ HoldsT es seen ∧ (∀ s, s ∈ seen ↔ s ∈ rows.flatten) ∧ Kp [] H G) := by
 refine Sim.of_tri Try.func39 rfl ?_
 show TrP 26 _ _ _ _
 refine Tri.seq ?_
 refine tR ?_
 refine sV rfl rfl rfl ?_
 show TrP 26 _ _ _ _
 refine tH [(0, _), (2, _)] ?_
 refine Tri.seq ?_
 refine tR ?_
 iterate 2 refine sV rfl rfl rfl ?_
 show TrP 26 _ _ _ _
 refine tH [(0, _), (2, _), (3, _)] ?_
 refine Tri.seq ?_
 refine Tri.seq ?_
 refine tR ?_
 iterate 3 refine sV rfl rfl rfl ?_
 show TrP 26 _ _ _ _
 refine tH [(0, _), (2, _), (3, _), (9, _), (10, _), (11, _)] ?_
 refine Tri.block ?_
 refine Tri.loop (fun k lk1 H1 => ∃ j : Nat, k = rows.length - j ∧ j ≤ rows.length ∧ Has lk1 [(3, at' (.map (some H.n))), (9, at' (.slice p rows.length)), (10, at' (.int .i64 rows.length)), (11, at' (.int .i64 j))] ∧ ∃ (seen : List (List UInt8)) (es : Ents), (∀ s, (s ∈ seen ∨ s ∈ (rows.drop j).flatten) ↔ s ∈ rows.flatten) ∧ HoldsT es seen ∧ Kp [] H H1 ∧ H1.get H.n = some (.map (ents es))) (rows.length) (⟨0, rfl, by omega, ⟨rfl, rfl, rfl, rfl, trivial⟩, [], [], by simp, HoldsT.nil, kP, gG⟩) ?_
 rintro k3 lk3 H3 ⟨j, hk3, hj, hh, seen, es, he, hH, hkp, hm⟩
 refine Tri.has hh ?_
 refine Tri.seq ?_
 refine tR ?_
 refine sO rfl rfl (oP rfl (fun h12 => ?_) (fun h12 => ?_))
 ·
  show TrP 26 _ _ _ _
  refine tH [(3, _), (9, _), (10, _), (11, _), (12, _)] ?_
  refine Tri.seq ?_
  refine tT rfl ?_
  refine Tri.skip ?_
  show TrP 26 _ _ _ _
  refine tH [(3, _), (9, _), (10, _), (11, _), (12, _)] ?_
  refine Tri.seq ?_
  refine Tri.block ?_
  refine Tri.seq ?_
  refine tR ?_
  obtain ⟨r, hr0⟩ : ∃ r, rows[j]? = some r := ⟨_, List.getElem?_eq_getElem (by omega)⟩
  obtain ⟨id, o, T, q, c, rfl, hg0, hle, q2, hcs, hrow⟩ := hr.at hr0
  have hg := hkp.get hg0 rfl
  have hrl := hb2 r (List.mem_of_getElem? hr0)
  refine sO rfl rfl (oIA (z := 1) rfl rfl rfl rfl (by omega) ?_)
  refine sO rfl rfl (oLoad (x := .at (.slice q2 r.length)) rfl gG (part_one hcs rfl rfl rfl) ?_)
  refine sV rfl rfl rfl ?_
  show TrP 26 _ _ _ _
  refine tH [(3, _), (5, _), (9, _), (10, _), (11, _), (12, _)] ?_
  refine Tri.seq ?_
  refine tR ?_
  iterate 3 refine sV rfl rfl rfl ?_
  show TrP 26 _ _ _ _
  refine tH [(3, _), (5, _), (9, _), (10, _), (11, _), (12, _), (15, _), (16, _), (17, _)] ?_
  refine Tri.block ?_
  refine Tri.loop (fun k lk1 H1 => ∃ i : Nat, k = r.length - i ∧ i ≤ r.length ∧ Has lk1 [(3, at' (.map (some H.n))), (9, at' (.slice (some (id, o)) rows.length)), (10, at' (.int .i64 rows.length)), (11, at' (.int .i64 j)), (15, at' (.slice q2 r.length)), (16, at' (.int .i64 r.length)), (17, at' (.int .i64 i))] ∧ ∃ (seen : List (List UInt8)) (es : Ents), (∀ s, (s ∈ seen ∨ s ∈ r.drop i ++ (rows.drop (j + 1)).flatten) ↔ s ∈ rows.flatten) ∧ HoldsT es seen ∧ Kp [] H H1 ∧ H1.get H.n = some (.map (ents es))) (r.length) (⟨0, rfl, by omega, ⟨rfl, rfl, rfl, rfl, rfl, rfl, rfl, trivial⟩, seen, es, by intro s; rw [List.drop_zero, ← he, drop_row hr0, List.flatten_cons], hH, hkp, hm⟩) ?_
  rintro k6 lk6 H6 ⟨i, hk6, hi, hh, seen, es, he, hH, hkp, hm⟩
  refine Tri.has hh ?_
  refine Tri.seq ?_
  refine tR ?_
  refine sO rfl rfl (oP rfl (fun h18 => ?_) (fun h18 => ?_))
  ·
   show TrP 26 _ _ _ _
   refine tH [(3, _), (9, _), (10, _), (11, _), (15, _), (16, _), (17, _), (18, _)] ?_
   refine Tri.seq ?_
   refine tT rfl ?_
   refine Tri.skip ?_
   show TrP 26 _ _ _ _
   refine tH [(3, _), (9, _), (10, _), (11, _), (15, _), (16, _), (17, _), (18, _)] ?_
   refine Tri.seq ?_
   refine Tri.block ?_
   refine Tri.seq ?_
   refine tR ?_
   obtain ⟨s, hs0⟩ : ∃ s, r[i]? = some s := ⟨_, List.getElem?_eq_getElem (by omega)⟩
   obtain ⟨id2, o2, T2, q3, c2, rfl, hg20, hle2, hcs2⟩ := hrow.at hs0
   have hg2 := hkp.get hg20 rfl
   refine sO rfl rfl (oIA (z := 1) rfl rfl rfl rfl (by omega) ?_)
   refine sO rfl rfl (oLoad (x := .at (.str s)) rfl gG (part_one hcs2 rfl rfl rfl) ?_)
   refine sV rfl rfl rfl ?_
   show TrP 26 _ _ _ _
   refine tH [(3, _), (7, _), (9, _), (10, _), (11, _), (15, _), (16, _), (17, _), (18, _)] ?_
   refine tR ?_
   iterate 2 refine sV rfl rfl rfl ?_
   refine sO rfl rfl (oMapUp rfl rfl rfl rfl rfl hm ?_)
   show TrP 26 _ _ _ _
   refine tH [(3, _), (7, _), (9, _), (10, _), (11, _), (15, _), (16, _), (17, _), (18, _)] ?_
   refine tR ?_
   refine sO rfl rfl (oAdd (m := 1) rfl (by omega) ?_)
   refine sV rfl rfl rfl ?_
   refine ⟨r.length - (i + 1), by omega, i + 1, rfl, by omega, ⟨rfl, rfl, rfl, rfl, rfl, rfl, rfl, trivial⟩, s :: seen, _, ?_, hH.up s, (hkp.set (Heap.get_lt hm) (.inr (by omega))), Heap.set_newl (Heap.get_lt hm)⟩
   intro t
   rw [← he t, drop_row hs0]
   simp only [List.mem_cons, List.mem_append]
   constructor
   · rintro ((h | h) | h | h) <;> simp [h]
   · rintro (h | (h | h) | h) <;> simp [h]
  ·
   show TrP 26 _ _ _ _
   refine tH [(3, _), (9, _), (10, _), (11, _), (15, _), (16, _), (17, _), (18, _)] ?_
   refine Tri.seq ?_
   refine tF rfl ?_
   refine Tri.exit ?_
   show TrP 26 _ _ _ _
   refine tH [(3, _), (9, _), (10, _), (11, _), (15, _), (16, _), (17, _), (18, _)] ?_
   refine tR ?_
   refine sO rfl rfl (oAdd (m := 1) rfl (by omega) ?_)
   refine sV rfl rfl rfl ?_
   rw [show i = r.length from by omega, List.drop_length, List.nil_append] at he
   exact ⟨rows.length - (j + 1), by omega, j + 1, rfl, by omega, ⟨rfl, rfl, rfl, rfl, trivial⟩, seen, es, he, hH, hkp, hm⟩
 ·
  show TrP 26 _ _ _ _
  refine tH [(3, _), (9, _), (10, _), (11, _), (12, _)] ?_
  refine Tri.seq ?_
  refine tF rfl ?_
  refine Tri.exit ?_
  show TrP 26 _ _ _ _
  refine tH [(3, _), (9, _), (10, _), (11, _), (12, _)] ?_
  refine Tri.seq ?_
  refine tR ?_
  iterate 2 refine sV rfl rfl rfl ?_
  show TrP 26 _ _ _ _
  refine tH [(2, _), (3, _), (9, _), (10, _), (11, _), (12, _)] ?_
  refine Tri.ret ?_
  refine ⟨trivial, _, rfl, ?_⟩
  rw [show j = rows.length from by omega, List.drop_length] at he
  exact ⟨_, es, seen, rfl, Nat.le_refl _, hm, hH, fun s => by rw [← he s]; simp, hkp⟩
theorem tk_snoc {β : Type} {f : β → List UInt8} {l : List β} {j : Nat} {x : β} (h : l[j]? = some x) : (l.take (j + 1)).map f = (l.take j).map f ++ [f x] := by
  rw [List.take_add_one, h, List.map_append]; rfl
theorem fm_snoc (xs : List (List UInt8)) (s : List UInt8) : (xs ++ [s]).flatMap strC = xs.flatMap strC ++ [.str s] := by rw [List.flatMap_append]; rfl
theorem fm_len (xs : List (List UInt8)) : (xs.flatMap strC).length = xs.length * 1 := flat_len (f := strC) (fun _ => rfl) xs
theorem tk_le {β : Type} {f : β → List UInt8} (l : List β) (j : Nat) : ((l.take j).map f).length ≤ l.length := by rw [List.length_map, List.length_take]; omega
theorem rowQ_of {G : Heap} {lo : Nat} {T : TypeId} {xs : List (List UInt8)} {a : AT} (h : RowA G lo T xs.length (xs.flatMap strC) a) : ∃ p, a = .slice p xs.length ∧ RowQ G 1 LT1 xs p := by
  obtain ⟨p, rfl, hr⟩ := h.r (z := 1) (fun _ => rfl)
  exact ⟨p, rfl, hr.q (fun _ => rfl) fun _ => rfl⟩

theorem declared_ok (p : Pr) (cs : List AT) (H : Heap) (hL : LPr H p cs) (ha : p.arrays.length ≤ 4) (hf8 : p.funcs.length ≤ 8) : Sim Try.prog 37 [.one (.agg cs)] H (fun u G => ∃ qa qf, u = .tup [.at (.slice qa (p.arrays.map Ar.name).length), .at (.slice qf (p.funcs.map Fn1.name).length)] ∧ RowQ G 1 LT1 (p.arrays.map Ar.name) qa ∧ RowQ G 1 LT1 (p.funcs.map Fn1.name) qf ∧ Kp [] H G) := by
 obtain ⟨pa, pf, rfl, hA, hF⟩ := hL
 refine Sim.of_tri Try.func37 rfl ?_
 show TrP 38 _ _ _ _
 refine Tri.seq ?_
 refine tR ?_
 refine sO rfl rfl (oBox (cs := [_, _]) rfl rfl ?_)
 iterate 2 refine sV rfl rfl rfl ?_
 show TrP 38 _ _ _ _
 refine tH [(0, _), (1, _), (2, _), (3, _)] ?_
 refine Tri.seq ?_
 refine tR ?_
 iterate 2 refine sV rfl rfl rfl ?_
 show TrP 38 _ _ _ _
 refine tH [(0, _), (1, _), (2, _), (3, _), (4, _), (5, _)] ?_
 refine Tri.seq ?_
 refine Tri.seq ?_
 refine tR ?_
 refine sO rfl rfl (oW (at' (.ptr (some (_, 0)))) rfl rfl ?_)
 refine sO rfl rfl (oLoad (x := .at _) rfl gG rfl ?_)
 iterate 2 refine sV rfl rfl rfl ?_
 show TrP 38 _ _ _ _
 refine tH [(0, _), (1, _), (2, _), (3, _), (4, _), (5, _), (11, _), (12, _), (13, _)] ?_
 refine Tri.block ?_
 refine Tri.loop (fun k lk1 H1 => ∃ (j : Nat) (a : AT), k = p.arrays.length - j ∧ j ≤ p.arrays.length ∧ Kp [] H H1 ∧ H1.get H.n = some (.cells 32 1 [.slice pa p.arrays.length, .slice pf p.funcs.length]) ∧ RowA H1 (H.n + 1) 9 ((p.arrays.take j).map Ar.name).length (((p.arrays.take j).map Ar.name).flatMap strC) a ∧ Has lk1 [(1, at' (.ptr (some (H.n, 0)))), (4, at' a), (5, at' (.slice none 0)), (11, at' (.slice pa p.arrays.length)), (12, at' (.int .i64 p.arrays.length)), (13, at' (.int .i64 j))]) (p.arrays.length) (⟨0, _, rfl, by omega, kP, gG, RowA.nil _ _ _, ⟨rfl, rfl, rfl, rfl, rfl, rfl, trivial⟩⟩) ?_
 rintro k3 lk3 H3 ⟨j, a, hk3, hj, hkp, hc, hr, hh⟩
 refine Tri.has hh ?_
 have hkpn := hkp.n
 have hlt := Heap.get_lt hc
 refine Tri.seq ?_
 refine tR ?_
 refine sO rfl rfl (oP rfl (fun h14 => ?_) (fun h14 => ?_))
 ·
  show TrP 38 _ _ _ _
  refine tH [(1, _), (4, _), (5, _), (11, _), (12, _), (13, _), (14, _)] ?_
  refine Tri.seq ?_
  refine tT rfl ?_
  refine Tri.skip ?_
  show TrP 38 _ _ _ _
  refine tH [(1, _), (4, _), (5, _), (11, _), (12, _), (13, _), (14, _)] ?_
  refine Tri.seq ?_
  refine Tri.block ?_
  refine Tri.seq ?_
  refine tR ?_
  obtain ⟨x, hx⟩ : ∃ x, p.arrays[j]? = some x := ⟨_, List.getElem?_eq_getElem (by omega)⟩
  obtain ⟨id, o, T, q, c, rfl, hg0, hle, hcs⟩ := hA.at hx
  have hg := hkp.get hg0 rfl
  refine sO rfl rfl (oIA (z := 2) rfl rfl rfl rfl (by omega) ?_)
  refine sO rfl rfl (oLoad (x := .agg [.str x.name, .int .i64 x.len]) rfl gG (part_all hcs hle rfl rfl rfl) ?_)
  refine sO rfl rfl (oAlloc (cs := [.str [], .int .i64 0]) rfl rfl ?_)
  refine sO rfl rfl (oStore (n := 2) (cs' := [_, _]) rfl rfl rfl gG rfl (Nat.le_of_ble_eq_true rfl) rfl rfl ?_)
  show TrP 38 _ _ _ _
  refine tH [(1, _), (4, _), (5, _), (7, _), (11, _), (12, _), (13, _), (14, _)] ?_
  refine tR ?_
  refine sV rfl rfl rfl ?_
  refine sO rfl rfl (oW (at' (.ptr (some (_, 0)))) rfl rfl ?_)
  refine sO rfl rfl (oLoad (x := .at _) rfl gG rfl ?_)
  refine sO rfl rfl (oBS1 (n := 1) rfl rfl rfl rfl rfl (by omega) (by omega) rfl ?_)
  have hlen := fm_len ((p.arrays.take j).map Ar.name)
  have htl := tk_le (f := Ar.name) p.arrays j
  refine sO rfl rfl (oAppRow (lo := H.n + 1) (n := ((p.arrays.take j).map Ar.name).length) (m := 1) (cs := ((p.arrays.take j).map Ar.name).flatMap strC) rfl rfl rfl rfl gR rfl gG rfl rfl rfl rfl rfl rfl rfl hlen (by (show (((p.arrays.take j).map Ar.name).length + 1) * 16 ≤ _); omega) (by omega) (by simp only [Heap.n_push, Heap.n_set]; have := Heap.get_lt hc; omega) (fun a2 H2 hr2 hn2 hg2 => ?_))
  have hc6 : H2.get H.n = some (.cells 32 1 [.slice (some (id, o)) p.arrays.length, .slice pf p.funcs.length]) := hg2 _ _ gG (.inl (by omega))
  have hkp1 : Kp [] H H2 := Kp.app (lo := H.n + 1) (hkp.trans0 kZ) (by omega) hn2 hg2
  refine sV rfl rfl rfl ?_
  show TrP 38 _ _ _ _
  refine tH [(1, _), (4, _), (5, _), (7, _), (11, _), (12, _), (13, _), (14, _)] ?_
  refine tR ?_
  refine sO rfl rfl (oAdd (m := 1) rfl (by omega) ?_)
  refine sV rfl rfl rfl ?_
  exact ⟨p.arrays.length - (j + 1), by omega, j + 1, a2, rfl, by omega, hkp1, hc6, by rw [tk_snoc hx, List.length_append, fm_snoc]; exact hr2, ⟨rfl, rfl, rfl, rfl, rfl, rfl, trivial⟩⟩
 ·
  show TrP 38 _ _ _ _
  refine tH [(1, _), (4, _), (5, _), (11, _), (12, _), (13, _), (14, _)] ?_
  refine Tri.seq ?_
  refine tF rfl ?_
  refine Tri.exit ?_
  show TrP 38 _ _ _ _
  refine tH [(1, _), (4, _), (5, _), (11, _), (12, _), (13, _), (14, _)] ?_
  refine Tri.seq ?_
  refine Tri.seq ?_
  refine tR ?_
  rw [List.take_of_length_le (by omega)] at hr
  obtain ⟨qa, rfl, hqa⟩ := rowQ_of hr
  refine sO rfl rfl (oW (at' (.ptr (some (_, 0 + 1)))) rfl rfl ?_)
  refine sO rfl rfl (oLoad (x := .at _) rfl gG rfl ?_)
  iterate 2 refine sV rfl rfl rfl ?_
  show TrP 38 _ _ _ _
  refine tH [(1, _), (4, _), (5, _), (11, _), (12, _), (13, _), (14, _), (24, _), (25, _), (26, _)] ?_
  refine Tri.block ?_
  refine Tri.loop (fun k lk1 H1 => ∃ (j : Nat) (a : AT), k = p.funcs.length - j ∧ j ≤ p.funcs.length ∧ Kp [] H H1 ∧ Kp [] H3 H1 ∧ RowA H1 H3.n 9 ((p.funcs.take j).map Fn1.name).length (((p.funcs.take j).map Fn1.name).flatMap strC) a ∧ Has lk1 [(4, at' (.slice qa (p.arrays.map Ar.name).length)), (5, at' a), (24, at' (.slice pf p.funcs.length)), (25, at' (.int .i64 p.funcs.length)), (26, at' (.int .i64 j))]) (p.funcs.length) (⟨0, _, rfl, by omega, hkp, Kp.refl, RowA.nil _ _ _, ⟨rfl, rfl, rfl, rfl, rfl, trivial⟩⟩) ?_
  rintro k8 lk8 H8 ⟨j, a, hk8, hj, hkp, hkp2, hr, hh⟩
  refine Tri.has hh ?_
  have hkpn := hkp.n
  have hkpn2 := hkp2.n
  have hlt0 := Heap.get_lt hc
  refine Tri.seq ?_
  refine tR ?_
  refine sO rfl rfl (oP rfl (fun h27 => ?_) (fun h27 => ?_))
  ·
   show TrP 38 _ _ _ _
   refine tH [(4, _), (5, _), (24, _), (25, _), (26, _), (27, _)] ?_
   refine Tri.seq ?_
   refine tT rfl ?_
   refine Tri.skip ?_
   show TrP 38 _ _ _ _
   refine tH [(4, _), (5, _), (24, _), (25, _), (26, _), (27, _)] ?_
   refine Tri.seq ?_
   refine Tri.block ?_
   refine Tri.seq ?_
   refine tR ?_
   obtain ⟨f, hf⟩ : ∃ f, p.funcs[j]? = some f := ⟨_, List.getElem?_eq_getElem (by omega)⟩
   obtain ⟨id, o, T, q, c, rfl, hg0, hle, hLf⟩ := hF.at hf
   have hg := hkp.get hg0 rfl
   obtain ⟨pp, pl, pb, b1, b2, b3, b4, b5, nb, hcs, hpar, hloc, hbody, hval⟩ := hLf.out
   refine sO rfl rfl (oIA (z := 9) rfl rfl rfl rfl (by omega) ?_)
   refine sO rfl rfl (oLoad (x := .agg [.str f.name, .slice pp f.params.length, .slice pl f.locals.length, .slice pb f.body.length, .int .i64 b1, .int .i64 b2, .str b3, .int .i64 b4, .slice b5 nb]) rfl gG (part_all hcs hle rfl rfl rfl) ?_)
   refine sO rfl rfl (oAlloc (cs := [.str [], .slice none 0, .slice none 0, .slice none 0, .int .i64 0, .int .i64 0, .str [], .int .i64 0, .slice none 0]) rfl rfl ?_)
   refine sO rfl rfl (oStore (n := 9) (cs' := [_, _, _, _, _, _, _, _, _]) rfl rfl rfl gG rfl (Nat.le_of_ble_eq_true rfl) rfl rfl ?_)
   show TrP 38 _ _ _ _
   refine tH [(4, _), (5, _), (9, _), (24, _), (25, _), (26, _), (27, _)] ?_
   refine tR ?_
   refine sV rfl rfl rfl ?_
   refine sO rfl rfl (oW (at' (.ptr (some (_, 0)))) rfl rfl ?_)
   refine sO rfl rfl (oLoad (x := .at _) rfl gG rfl ?_)
   refine sO rfl rfl (oBS1 (n := 1) rfl rfl rfl rfl rfl (by omega) (by omega) rfl ?_)
   have hlen := fm_len ((p.funcs.take j).map Fn1.name)
   have htl := tk_le (f := Fn1.name) p.funcs j
   refine sO rfl rfl (oAppRow (lo := H3.n) (n := ((p.funcs.take j).map Fn1.name).length) (m := 1) (cs := ((p.funcs.take j).map Fn1.name).flatMap strC) rfl rfl rfl rfl gR rfl gG rfl rfl rfl rfl rfl rfl rfl hlen (by (show (((p.funcs.take j).map Fn1.name).length + 1) * 16 ≤ _); omega) (by omega) (by simp only [Heap.n_push, Heap.n_set]; have := Heap.get_lt hc; omega) (fun a2 H2 hr2 hn2 hg2 => ?_))
   have hkp1 : Kp [] H H2 := Kp.app (lo := H3.n) (hkp.trans0 kZ) (by omega) hn2 hg2
   have hkp3 : Kp [] H3 H2 := Kp.app (lo := H3.n) (hkp2.trans0 kZ) (by omega) hn2 hg2
   refine sV rfl rfl rfl ?_
   show TrP 38 _ _ _ _
   refine tH [(4, _), (5, _), (9, _), (24, _), (25, _), (26, _), (27, _)] ?_
   refine tR ?_
   refine sO rfl rfl (oAdd (m := 1) rfl (by omega) ?_)
   refine sV rfl rfl rfl ?_
   exact ⟨p.funcs.length - (j + 1), by omega, j + 1, a2, rfl, by omega, hkp1, hkp3, by rw [tk_snoc hf, List.length_append, fm_snoc]; exact hr2, ⟨rfl, rfl, rfl, rfl, rfl, trivial⟩⟩
  ·
   show TrP 38 _ _ _ _
   refine tH [(4, _), (5, _), (24, _), (25, _), (26, _), (27, _)] ?_
   refine Tri.seq ?_
   refine tF rfl ?_
   refine Tri.exit ?_
   show TrP 38 _ _ _ _
   refine tH [(4, _), (5, _), (24, _), (25, _), (26, _), (27, _)] ?_
   refine Tri.seq ?_
   refine tR ?_
   iterate 4 refine sV rfl rfl rfl ?_
   show TrP 38 _ _ _ _
   refine tH [(2, _), (3, _), (4, _), (5, _), (24, _), (25, _), (26, _), (27, _)] ?_
   refine Tri.ret ?_
   refine ⟨trivial, _, rfl, ?_⟩
   rw [List.take_of_length_le (by omega)] at hr
   obtain ⟨qf, rfl, hqf⟩ := rowQ_of hr
   exact ⟨qa, qf, rfl, hqa.imp hkp2 fun _ _ _ h => h, hqf, hkp⟩
section
variable {P : Program} {eqs : Eqs} {lk : Env} {H : Heap} {K : AV → Heap → Prop}
theorem oBS2 {T e : TypeId} {x y : Operand} {a b z : AT} (hx : rho lk x = some (at' a)) (hy : rho lk y = some (at' b)) (hu : isSliceD (P.underlying T) = some e) (hz : sizeO P e = some 1) (h0 : zeroOf P e = some (.at z))
    (hk : K (at' (.slice (some (H.n, 0)) 2)) (H.push (.cells e 2 [a, b]))) : opP P eqs (.buildSlice T 2 #[(0, x), (1, y)]) lk H K :=
  oV (v := at' (.slice (some (H.n, 0)) 2)) (H' := H.push (.cells e 2 [a, b])) (by
    show op_buildSlice T 2 #[(0, x), (1, y)] P eqs lk H = _
    unfold op_buildSlice
    have hp : partsOf lk #[(0, x), (1, y)].toList = some [(0, at' a), (1, at' b)] := by
      show (match rho lk x, (match rho lk y, some [] with | some a, some l => some ((1, a) :: l) | _, _ => none) with | some a, some l => some ((0, a) :: l) | _, _ => none) = _
      rw [hx, hy]
    rw [hu, hp]
    simp only [hz, h0]
    rfl) hk
theorem oBS3 {T e : TypeId} {x y w : Operand} {a b c z : AT} (hx : rho lk x = some (at' a)) (hy : rho lk y = some (at' b)) (hw : rho lk w = some (at' c)) (hu : isSliceD (P.underlying T) = some e) (hz : sizeO P e = some 1) (h0 : zeroOf P e = some (.at z))
    (hk : K (at' (.slice (some (H.n, 0)) 3)) (H.push (.cells e 2 [a, b, c]))) : opP P eqs (.buildSlice T 3 #[(0, x), (1, y), (2, w)]) lk H K :=
  oV (v := at' (.slice (some (H.n, 0)) 3)) (H' := H.push (.cells e 2 [a, b, c])) (by
    show op_buildSlice T 3 #[(0, x), (1, y), (2, w)] P eqs lk H = _
    unfold op_buildSlice
    have hp : partsOf lk #[(0, x), (1, y), (2, w)].toList = some [(0, at' a), (1, at' b), (2, at' c)] := by
      show (match rho lk x, (match rho lk y, (match rho lk w, some [] with | some a, some l => some ((2, a) :: l) | _, _ => none) with | some a, some l => some ((1, a) :: l) | _, _ => none) with | some a, some l => some ((0, a) :: l) | _, _ => none) = _
      rw [hx, hy, hw]
    rw [hu, hp]
    simp only [hz, h0]
    rfl) hk
end
theorem row1 {β : Type} {R : β → List AT → Prop} {H : Heap} {x : β} {id : Nat} {T : TypeId} {k : Nat} {a : AT} (hg : H.get id = some (.cells T k [a])) (h1 : R x [a]) : RowQ H 1 R [x] (some (id, 0)) :=
  ⟨fun h => (by cases h), fun id' o hp => .inr (by cases hp; exact ⟨T, k, _, hg, by simp, h1, rfl⟩)⟩
theorem row2 {β : Type} {R : β → List AT → Prop} {H : Heap} {x y : β} {id : Nat} {T : TypeId} {k : Nat} {a b : AT} (hg : H.get id = some (.cells T k [a, b])) (h1 : R x [a]) (h2 : R y [b]) : RowQ H 1 R [x, y] (some (id, 0)) :=
  ⟨fun h => (by cases h), fun id' o hp => .inr (by cases hp; exact ⟨T, k, _, hg, by simp, h1, h2, rfl⟩)⟩
theorem row3 {β : Type} {R : β → List AT → Prop} {H : Heap} {x y z : β} {id : Nat} {T : TypeId} {k : Nat} {a b c : AT} (hg : H.get id = some (.cells T k [a, b, c])) (h1 : R x [a]) (h2 : R y [b]) (h3 : R z [c]) : RowQ H 1 R [x, y, z] (some (id, 0)) :=
  ⟨fun h => (by cases h), fun id' o hp => .inr (by cases hp; exact ⟨T, k, _, hg, by simp, h1, h2, h3, rfl⟩)⟩
theorem lrw {H H' : Heap} {l : List (List UInt8)} {q : Option (Nat × Nat)} (hk : Kp [] H H') (h : RowQ H 1 LT1 l q) : LRw H' l [.slice q l.length] := ⟨q, rfl, h.imp hk fun _ _ _ h => h⟩
/-- Whether names of a program come twice. -/
def nd (p : Pr) (f : Fn1) : Bool := !dup [] [p.arrays.map Ar.name, f.params, f.locals].flatten
def dupP (p : Pr) : Bool := dup [] [p.arrays.map Ar.name].flatten || (dup [] [p.funcs.map Fn1.name].flatten || !p.funcs.all (nd p))

theorem duplicates_ok (p : Pr) (cs : List AT) (H : Heap) (hL : LPr H p cs) (hlow : LowP p) (ha : p.arrays.length ≤ 4) (hf8 : p.funcs.length ≤ 8) : Sim Try.prog 16 [.one (.agg cs)] H (fun u G => u = at' (.bool (dupP p)) ∧ G = H) := by
 have hL0 := hL
 obtain ⟨pa, pf, rfl, hA, hF⟩ := hL
 obtain ⟨hlow1, hlow2, hlow3⟩ := hlow
 refine Sim.trim ?_
 refine Sim.of_tri Try.func16 rfl ?_
 show TrP 35 _ _ _ _
 refine Tri.seq ?_
 refine tR ?_
 refine sO rfl rfl (oBox (cs := [_, _]) rfl rfl ?_)
 refine sV rfl rfl rfl ?_
 show TrP 35 _ _ _ _
 refine tH [(0, _), (1, _), (2, _)] ?_
 refine Tri.seq ?_
 refine tR ?_
 refine sO rfl rfl (oLoad (x := .agg [_, _]) rfl gG rfl ?_)
 refine sO rfl rfl (oC rfl (fnOk_of Try.func37 (by decide) rfl) (declared_ok p _ _ (hL0.kp kP) ha hf8) ?_)
 rintro u G ⟨qa, qf, rfl, hqa, hqf, hk1⟩
 have hk2 : Kp [] H G := (Kp.push Kp.refl).trans0 hk1
 have hcell := hk1.get (Heap.push_new (H := H)) rfl
 iterate 5 refine sV rfl rfl rfl ?_
 show TrP 35 _ _ _ _
 refine tH [(0, _), (1, _), (2, _), (3, _), (4, _)] ?_
 refine Tri.seq ?_
 refine Tri.seq ?_
 refine tR ?_
 refine sV rfl rfl rfl ?_
 refine sO rfl rfl (oBS1 (n := 1) rfl rfl rfl rfl rfl (by omega) (by omega) rfl ?_)
 refine sO rfl rfl (oFB rfl (fnOk_of Try.func38 (by decide) rfl) (hasDuplicate_ok [p.arrays.map Ar.name] _ _ (row1 gG (lrw kP hqa)) (by simp) (by intro r hr; simp only [List.mem_cons, List.not_mem_nil, or_false] at hr; subst hr; rw [List.length_map]; omega)) (fun h14 => ?_) (fun h14 => ?_))
 ·
  refine sV rfl rfl rfl ?_
  iterate 3 refine sN rfl rfl ?_
  refine sV rfl rfl rfl ?_
  show TrP 35 _ _ _ _
  refine tH [(0, _), (1, _), (2, _), (3, _), (4, _), (19, _)] ?_
  refine tT rfl ?_
  refine Tri.seq ?_
  refine tR ?_
  refine sV rfl rfl rfl ?_
  show TrP 35 _ _ _ _
  refine tH [(0, _), (1, _), (2, _), (3, _), (4, _), (19, _)] ?_
  refine Tri.ret ?_
  refine ⟨trivial, _, rfl, ?_⟩
  have e : dupP p = true := by unfold dupP; simp only [*, ne_eq, not_false_eq_true, decide_true, decide_false, if_true, if_false, Bool.not_true, Bool.not_false, Bool.and_true, Bool.true_and, Bool.and_false, Bool.false_and, Bool.or_true, Bool.true_or, Bool.or_false, Bool.false_or]
  rw [e]; exact ⟨hk2.trans0 kZ, rfl, rfl⟩
 ·
  iterate 2 refine sV rfl rfl rfl ?_
  refine sO rfl rfl (oBS1 (n := 1) rfl rfl rfl rfl rfl (by omega) (by omega) rfl ?_)
  refine sO rfl rfl (oFB rfl (fnOk_of Try.func38 (by decide) rfl) (hasDuplicate_ok [p.funcs.map Fn1.name] _ _ (row1 gG (lrw kP hqf)) (by simp) (by intro r hr; simp only [List.mem_cons, List.not_mem_nil, or_false] at hr; subst hr; rw [List.length_map]; omega)) (fun h18 => ?_) (fun h18 => ?_))
  ·
   refine sV rfl rfl rfl ?_
   show TrP 35 _ _ _ _
   refine tH [(0, _), (1, _), (2, _), (3, _), (4, _), (19, _)] ?_
   refine tT rfl ?_
   refine Tri.seq ?_
   refine tR ?_
   refine sV rfl rfl rfl ?_
   show TrP 35 _ _ _ _
   refine tH [(0, _), (1, _), (2, _), (3, _), (4, _), (19, _)] ?_
   refine Tri.ret ?_
   refine ⟨trivial, _, rfl, ?_⟩
   have e : dupP p = true := by unfold dupP; simp only [*, ne_eq, not_false_eq_true, decide_true, decide_false, if_true, if_false, Bool.not_true, Bool.not_false, Bool.and_true, Bool.true_and, Bool.and_false, Bool.false_and, Bool.or_true, Bool.true_or, Bool.or_false, Bool.false_or]
   rw [e]; exact ⟨hk2.trans0 kZ, rfl, rfl⟩
  ·
   refine sV rfl rfl rfl ?_
   show TrP 35 _ _ _ _
   refine tH [(0, _), (1, _), (2, _), (3, _), (4, _), (19, _)] ?_
   refine tF rfl ?_
   refine Tri.skip ?_
   show TrP 35 _ _ _ _
   refine tH [(0, _), (1, _), (2, _), (3, _), (4, _), (19, _)] ?_
   refine Tri.seq ?_
   refine Tri.seq ?_
   refine tR ?_
   refine sO rfl rfl (oW (at' (.ptr (some (_, 1)))) rfl rfl ?_)
   refine sO rfl rfl (oLoad (x := .at _) rfl gG rfl ?_)
   iterate 2 refine sV rfl rfl rfl ?_
   show TrP 35 _ _ _ _
   refine tH [(0, _), (1, _), (2, _), (3, _), (4, _), (19, _), (21, _), (22, _), (23, _)] ?_
   refine Tri.block ?_
   refine Tri.loop (fun k lk1 H1 => ∃ j : Nat, k = p.funcs.length - j ∧ j ≤ p.funcs.length ∧ (p.funcs.take j).all (nd p) = true ∧ Kp [] G H1 ∧ Has lk1 [(3, at' (.slice qa (p.arrays.map Ar.name).length)), (21, at' (.slice pf p.funcs.length)), (22, at' (.int .i64 p.funcs.length)), (23, at' (.int .i64 j))]) (p.funcs.length) (⟨0, rfl, by omega, by simp, kP, ⟨rfl, rfl, rfl, rfl, trivial⟩⟩) ?_
   rintro k lk1 H1 ⟨j, hk5, hj, hall, hkp, hh⟩
   refine Tri.has hh ?_
   have hkpn := hkp.n
   refine Tri.seq ?_
   refine tR ?_
   refine sO rfl rfl (oP rfl (fun h24 => ?_) (fun h24 => ?_))
   ·
    show TrP 35 _ _ _ _
    refine tH [(3, _), (21, _), (22, _), (23, _), (24, _)] ?_
    refine Tri.seq ?_
    refine tT rfl ?_
    refine Tri.skip ?_
    show TrP 35 _ _ _ _
    refine tH [(3, _), (21, _), (22, _), (23, _), (24, _)] ?_
    refine Tri.seq ?_
    refine Tri.block ?_
    refine Tri.seq ?_
    refine tR ?_
    obtain ⟨f, hf⟩ : ∃ f, p.funcs[j]? = some f := ⟨_, List.getElem?_eq_getElem (by omega)⟩
    obtain ⟨id, o, T, q, c, rfl, hg0, hle, hLf⟩ := hF.at hf
    have hg := (hk2.trans0 hkp).get hg0 rfl
    obtain ⟨pp, pl, pb, b1, b2, b3, b4, b5, nb, hcs, hpar, hloc, hbody, hval⟩ := hLf.out
    obtain ⟨hv, hv4, hv5⟩ := hlow3 f (List.mem_of_getElem? hf)
    refine sO rfl rfl (oIA (z := 9) rfl rfl rfl rfl (by omega) ?_)
    refine sO rfl rfl (oLoad (x := .agg [.str f.name, .slice pp f.params.length, .slice pl f.locals.length, .slice pb f.body.length, .int .i64 b1, .int .i64 b2, .str b3, .int .i64 b4, .slice b5 nb]) rfl gG (part_all hcs hle rfl rfl rfl) ?_)
    refine sO rfl rfl (oAlloc (cs := [.str [], .slice none 0, .slice none 0, .slice none 0, .int .i64 0, .int .i64 0, .str [], .int .i64 0, .slice none 0]) rfl rfl ?_)
    refine sO rfl rfl (oStore (n := 9) (cs' := [_, _, _, _, _, _, _, _, _]) rfl rfl rfl gG rfl (Nat.le_of_ble_eq_true rfl) rfl rfl ?_)
    show TrP 35 _ _ _ _
    refine tH [(3, _), (6, _), (21, _), (22, _), (23, _), (24, _)] ?_
    refine Tri.seq ?_
    refine tR ?_
    refine sV rfl rfl rfl ?_
    refine sO rfl rfl (oW (at' (.ptr (some (_, 1)))) rfl rfl ?_)
    refine sO rfl rfl (oLoad (x := .at _) rfl gG rfl ?_)
    refine sO rfl rfl (oW (at' (.ptr (some (_, 2)))) rfl rfl ?_)
    refine sO rfl rfl (oLoad (x := .at _) rfl gG rfl ?_)
    refine sO rfl rfl (oBS3 rfl rfl rfl rfl rfl rfl ?_)
    refine sO rfl rfl (oFB rfl (fnOk_of Try.func38 (by decide) rfl) (hasDuplicate_ok [p.arrays.map Ar.name, f.params, f.locals] _ _ (row3 gG (lrw kP hqa) (lrw (hk2.trans0 kP) hpar) (lrw (hk2.trans0 kP) hloc)) (by simp) (by intro r hr; simp only [List.mem_cons, List.not_mem_nil, or_false] at hr; rcases hr with rfl | rfl | rfl <;> first | omega | (rw [List.length_map]; omega))) (fun h33 => ?_) (fun h33 => ?_))
    ·
     show TrP 35 _ _ _ _
     refine tH [(3, _), (6, _), (21, _), (22, _), (23, _), (24, _), (33, _)] ?_
     refine tT rfl ?_
     refine Tri.seq ?_
     refine tR ?_
     refine sV rfl rfl rfl ?_
     show TrP 35 _ _ _ _
     refine tH [(2, _), (3, _), (6, _), (21, _), (22, _), (23, _), (24, _), (33, _)] ?_
     refine Tri.ret ?_
     refine ⟨trivial, _, rfl, ?_⟩
     have e0 : nd p f = false := by unfold nd; simp only [*, ne_eq, not_false_eq_true, decide_true, decide_false, if_true, if_false, Bool.not_true, Bool.not_false, Bool.and_true, Bool.true_and, Bool.and_false, Bool.false_and, Bool.or_true, Bool.true_or, Bool.or_false, Bool.false_or]
     have e : dupP p = true := by unfold dupP; rw [all_no hf e0]; simp
     rw [e]; exact ⟨(hk2.trans0 hkp).trans0 kZ, rfl, rfl⟩
    ·
     show TrP 35 _ _ _ _
     refine tH [(3, _), (6, _), (21, _), (22, _), (23, _), (24, _), (33, _)] ?_
     refine tF rfl ?_
     refine Tri.skip ?_
     show TrP 35 _ _ _ _
     refine tH [(3, _), (6, _), (21, _), (22, _), (23, _), (24, _), (33, _)] ?_
     refine tR ?_
     refine sO rfl rfl (oAdd (m := 1) rfl (by omega) ?_)
     refine sV rfl rfl rfl ?_
     have e0 : nd p f = true := by unfold nd; simp only [*, ne_eq, not_false_eq_true, decide_true, decide_false, if_true, if_false, Bool.not_true, Bool.not_false, Bool.and_true, Bool.true_and, Bool.and_false, Bool.false_and, Bool.or_true, Bool.true_or, Bool.or_false, Bool.false_or]
     exact ⟨p.funcs.length - (j + 1), by omega, j + 1, rfl, by omega, all_snoc hall hf e0, hkp.trans0 kZ, ⟨rfl, rfl, rfl, rfl, trivial⟩⟩
   ·
    show TrP 35 _ _ _ _
    refine tH [(3, _), (21, _), (22, _), (23, _), (24, _)] ?_
    refine Tri.seq ?_
    refine tF rfl ?_
    refine Tri.exit ?_
    show TrP 35 _ _ _ _
    refine tH [(3, _), (21, _), (22, _), (23, _), (24, _)] ?_
    refine Tri.seq ?_
    refine tR ?_
    refine sV rfl rfl rfl ?_
    show TrP 35 _ _ _ _
    refine tH [(2, _), (3, _), (21, _), (22, _), (23, _), (24, _)] ?_
    refine Tri.ret ?_
    refine ⟨trivial, _, rfl, ?_⟩
    have e : dupP p = false := by
      unfold dupP; rw [List.take_of_length_le (by omega)] at hall; simp only [*, ne_eq, not_false_eq_true, decide_true, decide_false, if_true, if_false, Bool.not_true, Bool.not_false, Bool.and_true, Bool.true_and, Bool.and_false, Bool.false_and, Bool.or_true, Bool.true_or, Bool.or_false, Bool.false_or]
    rw [e]; exact ⟨hk2.trans0 hkp, rfl, rfl⟩
end Go.Proofs.Ytceakkomleaibaa
