/-
  THE WALK of fullinglaw4.CheckerSingleError (printed by wip/tools/walk.py from wip/specs/chkG.py). Written in this session.
-/
import Derived.Test.YtceakkomleaibaaKu
namespace Go.Proofs.Ytceakkomleaibaa
open Go.Ea
set_option maxRecDepth 100000
set_option linter.unusedVariables false
set_option linter.unusedSimpArgs false

theorem lay_str : ∀ {xs : List (List UInt8)} {cs : List AT}, Lay 1 LT1 xs cs → cs.length = xs.length * 1 → cs = xs.map AT.str
  | [], cs, h, _ => h
  | x :: r, cs, h, hl => by
    simp only [List.length_cons] at hl
    match cs, hl with
    | c :: d, hl =>
      have h1 : [c] = [.str x] := h.1
      have h2 := lay_str h.2 (by simp only [List.length_cons] at hl; show d.length = _; omega)
      cases h1
      exact congrArg (List.cons _) h2
theorem str_lay : ∀ (xs : List (List UInt8)), Lay 1 LT1 xs (xs.map AT.str)
  | [] => rfl
  | x :: r => ⟨rfl, str_lay r⟩
theorem row_str {H : Heap} {id : Nat} {T : TypeId} {k : Nat} (xs : List (List UInt8)) (hg : H.get id = some (.cells T k (xs.map AT.str))) : RowQ H 1 LT1 xs (some (id, 0)) :=
  ⟨fun h => (by cases h), fun id' o hp => .inr (by
    cases hp
    exact ⟨_, _, _, hg, by simp, by rw [List.drop_zero, List.take_of_length_le (by simp)]; exact str_lay xs⟩)⟩
theorem numCL (H : Heap) : LX H num0 [.int .i64 1, .int .i64 0, .str [], .int .i64 0, .slice none 0] := LX_iff.2 ⟨none, rfl, RowQ.nil⟩
theorem putL_snoc {cs z x : List AT} {o : Nat} (h : cs.length = o) (hz : z.length = x.length) : putL (cs ++ z) o x = cs ++ x := by
  subst h
  unfold putL
  rw [List.take_left', List.drop_append, List.drop_eq_nil_of_le (by omega), List.nil_append, show cs.length + x.length - cs.length = z.length by omega, List.drop_length, List.append_nil]
  rfl

theorem rowA_snoc {H : Heap} {id : Nat} {T : TypeId} {xs : List Stm} {x : Stm} {cs c : List AT} (hcl : cs.length = xs.length * 17) (hg : H.get id = some (.cells T 2 (cs ++ c))) (hL : Lay 17 (LM H) xs cs) (hx : LM H x c) : RowQ H 17 (LM H) (xs ++ [x]) (some (id, 0)) :=
  RowE.q (T := T) (.inr ⟨id, _, rfl, hg, by rw [List.length_append, List.length_append, hcl, hx.len]; show xs.length * 17 + 17 = (xs.length + 1) * 17; omega, Lay.snoc hL hx hx.len hcl⟩)
theorem lfn_name {H : Heap} {nm nm2 : List UInt8} {ps ls : List (List UInt8)} {b : List Stm} {v : Exp} {p l q : AT} {cv : List AT} (h : LFn H ⟨nm, ps, ls, b, v⟩ (fnD nm p l q cv)) : LFn H ⟨nm2, ps, ls, b, v⟩ (fnD nm2 p l q cv) := by
  obtain ⟨pp, pl, pb, cv', h1, h2⟩ := h
  injection h1 with _ h1
  exact ⟨pp, pl, pb, cv', congrArg (List.cons _) h1, h2⟩
theorem objs_q {ida idf : Nat} {p1 l1 q1 p2 l2 q2 : Option (Nat × Nat)} (h : (objs ida idf p1 l1 q1 p2 l2 q2).Nodup) : idf ∉ ridq q1 ∧ ida ∉ ridq q1 := by
  simp only [objs, List.nodup_append, List.mem_append, List.mem_cons, List.not_mem_nil, or_false] at h
  exact ⟨fun hm => h.2.2 idf (by simp) idf (by simp [hm]) rfl, fun hm => h.2.2 ida (by simp) ida (by simp [hm]) rfl⟩

set_option maxHeartbeats 4000000 in
theorem single_ok (l : List Int) (r0 : Nat × Nat) (which : Int) (H : Heap) (hl : RowR H (fun x => [AT.int .i64 x]) 1 l (some r0)) : Sim Try.prog 5 [at' (.slice (some r0) l.length), at' (.int .i64 which)] H (fun u G => u = at' (.bool true) ∧ True) := by
 refine Sim.of_tri Try.func5 rfl ?_
 show TrP 159 _ _ _ _
 refine Tri.seq ?_
 refine tR ?_
 refine sV rfl rfl rfl ?_
 show TrP 159 _ _ _ _
 refine tH [(0, _), (1, _), (4, _)] ?_
 refine Tri.seq ?_
 refine tR ?_
 refine sV rfl rfl rfl ?_
 refine sO rfl rfl (oC rfl (fnOk_of Try.func9 (by decide) rfl) (Program_ok l r0 _ hl) ?_)
 rintro u G ⟨ida, idf, b1, b2, v1, v2, la, lb, p1, l1, q1, p2, l2, q2, c1, c2, rfl, hLd, hRd, hia, hif, hk⟩
 have hLd0 := hLd
 obtain ⟨hA, hF, hND, hp1, hl1, hq1, hc1, hp2, hl2, hq2, hc2⟩ := hLd0
 obtain ⟨y1, rfl, _⟩ := hc1.out
 obtain ⟨y2, rfl, _⟩ := hc2.out
 have hne := objs_ne hND
 have hal := Heap.get_lt hA
 have hfl := Heap.get_lt hF
 obtain ⟨csl, hral, hcll, hLl⟩ := hl1.a
 obtain rfl := lay_str hLl hcll
 obtain ⟨idl, rfl, hgl⟩ : ∃ idl, l1 = some (idl, 0) ∧ G.get idl = some (.cells 9 2 [.str [105], .str [106]]) := by
   rcases hral with ⟨h, _⟩ | ⟨i, _, h, hg⟩
   · cases h
   · cases h; exact ⟨i, rfl, hg⟩
 have hidl := Heap.get_lt hgl
 obtain ⟨csb, hrab, hclb, hLb⟩ := hq1.a
 have hrb := hrab.rid
 refine sO rfl rfl (oAlloc (cs := [.slice none 0, .slice none 0]) rfl rfl ?_)
 refine sO rfl rfl (oStore (n := 2) (cs' := [_, _]) rfl rfl rfl gG rfl (Nat.le_of_ble_eq_true rfl) rfl rfl ?_)
 show TrP 159 _ _ _ _
 refine tH [(0, _), (1, _), (4, _), (5, _)] ?_
 refine Tri.seq ?_
 refine tR ?_
 refine sO rfl rfl (oW (at' (.ptr (some (_, 1)))) rfl rfl ?_)
 refine sO rfl rfl (oLoad (x := .at _) rfl gG rfl ?_)
 refine sO rfl rfl (oIA (z := 9) (i := 0) rfl rfl rfl rfl (by omega) ?_)
 refine sV rfl rfl rfl ?_
 show TrP 159 _ _ _ _
 refine tH [(0, _), (1, _), (4, _), (5, _), (6, _)] ?_
 refine Tri.seq ?_
 refine tR ?_
 refine sO rfl rfl (oW (.one (.agg [_, .int .i64 0, .str [], .int .i64 0, .slice none 0])) rfl rfl ?_)
 refine sO rfl rfl (oAlloc (cs := [.int .i64 0, .int .i64 0, .str [], .int .i64 0, .slice none 0]) rfl rfl ?_)
 refine sO rfl rfl (oStore (n := 5) (cs' := [_, _, _, _, _]) rfl rfl rfl gG rfl (Nat.le_of_ble_eq_true rfl) rfl rfl ?_)
 show TrP 159 _ _ _ _
 refine tH [(0, _), (1, _), (4, _), (5, _), (6, _), (7, _)] ?_
 refine Tri.seq ?_
 refine tR ?_
 refine sV rfl rfl rfl ?_
 show TrP 159 _ _ _ _
 refine tH [(0, _), (1, _), (4, _), (5, _), (6, _), (7, _), (8, _)] ?_
 refine Tri.seqI (fun lk1 H1 => ∃ (p : Pr) (cs : List AT) (w : Int), chkS p = w ∧ LowP p ∧ LPr H1 p cs ∧ H1.get G.n = some (.cells 32 1 cs) ∧ cs.length = 2 ∧ Has lk1 [(5, at' (.ptr (some (G.n, 0)))), (8, at' (.int .i64 w))]) ?_ ?_
 ·
  refine Tri.seq ?_
  refine tR ?_
  refine sV rfl rfl rfl ?_
  refine sO rfl rfl (oF rfl (fnOk_of Try.func12 (by decide) rfl) (Pick_ok which 13 _ (by omega) (by omega)) ?_)
  show TrP 159 _ _ _ _
  refine tH [(0, _), (1, _), (4, _), (5, _), (6, _), (7, _), (8, _), (17, _)] ?_
  refine Tri.block ?_
  refine Tri.seq ?_
  refine tR ?_
  refine sO rfl rfl (oE rfl (fun h19 => ?_) (fun h19 => ?_))
  ·
   refine sV rfl rfl rfl ?_
   show TrP 159 _ _ _ _
   refine tH [(0, _), (1, _), (4, _), (5, _), (6, _), (7, _), (8, _), (17, _), (18, _)] ?_
   refine tT rfl ?_
   refine Tri.seq ?_
   refine tR ?_
   refine sV rfl rfl rfl ?_
   refine sO rfl rfl (oV (v := at' (.slice (some (_, 0)) 0)) (H' := Heap.push _ (.cells 9 2 [])) rfl ?_)
   iterate 2 refine sV rfl rfl rfl ?_
   refine sO rfl rfl (oW (at' (.ptr (some (_, _ + 2)))) rfl rfl ?_)
   refine sO rfl rfl (oLoad (x := .at _) rfl gG rfl ?_)
   refine sO rfl rfl (oAppK (lo := 0) (n := 0) (m := 2) (cs := []) (new := [.str [105], .str [106]]) rfl rfl rfl rfl (.inr ⟨_, Nat.zero_le _, rfl, Heap.push_new⟩) rfl gG rfl rfl rfl rfl rfl rfl rfl rfl (by decide) (by decide) (fun a4 H4 hr4 hk4 ⟨id4, ha4, hid4, hg4⟩ => ?_))
   subst ha4
   (try simp only [Heap.n_push, Heap.n_set, rid] at hid4 hk4)
   have hk4n := hk4.n
   (try simp only [Heap.n_push, Heap.n_set] at hk4n)
   have K40 : Kp [] G H4 := Kp.trans (show Kp [] G _ from kZ) hk4 (by intro d hd; simp only [List.mem_cons, List.not_mem_nil, or_false] at hd; right; omega)
   have hf4 := K40.get hF rfl
   have ha40 := K40.get hA rfl
   have hp4 : H4.get G.n = some (.cells 32 1 [.slice (some (ida, 0)) 2, .slice (some (idf, 0)) 2]) := hk4.g _ _ gG rfl (by simp; try omega)
   refine sO rfl rfl (oV (v := at' (.slice (some (_, 0)) 7)) (H' := Heap.push _ (.cells 9 2 [.str [107], .str [108], .str [109], .str [111], .str [112], .str [113], .str [114]])) rfl ?_)
   refine sO rfl rfl (oAppK (n := 2) (m := 7) (cs := [.str [105], .str [106]]) (new := [.str [107], .str [108], .str [109], .str [111], .str [112], .str [113], .str [114]]) rfl rfl rfl rfl hr4.push rfl gG rfl rfl rfl rfl rfl rfl rfl rfl (by decide) (by decide) (fun a5 H5 hr5 hk5 ⟨id5, ha5, hid5, hg5⟩ => ?_))
   subst ha5
   (try simp only [Heap.n_push, Heap.n_set, rid] at hid5 hk5)
   have hk5n := hk5.n
   (try simp only [Heap.n_push, Heap.n_set] at hk5n)
   have K50 : Kp [] G H5 := Kp.trans (show Kp [] G _ from Kp.push K40) hk5 (by intro d hd; simp only [List.mem_cons, List.not_mem_nil, or_false] at hd; right; omega)
   have hf5 := K50.get hF rfl
   have ha50 := K50.get hA rfl
   have hp5 : H5.get G.n = some (.cells 32 1 [.slice (some (ida, 0)) 2, .slice (some (idf, 0)) 2]) := hk5.g _ _ gG rfl (by simp; try omega)
   have K5a : Kp ([ida, idf] ++ ridq q1) G H5 := K50.weaken (fun _ h => by cases h)
   have K5b : Kp [ida, idf] G H5 := K50.weaken (fun _ h => by cases h)
   refine sV rfl rfl rfl ?_
   refine sO rfl rfl (oW (at' (.ptr (some (_, _ + 2)))) rfl rfl ?_)
   refine sO rfl rfl (oStore (n := 1) (cs' := (fnD [102] (.slice p1 2) (.slice (some (id5, 0)) 9) (.slice q1 b1.length) [.int .i64 v1.kind, .int .i64 v1.n, .str v1.name, .int .i64 v1.op, .slice y1 v1.kids.length] ++ fnD [103] (.slice p2 1) (.slice l2 1) (.slice q2 b2.length) [.int .i64 v2.kind, .int .i64 v2.n, .str v2.name, .int .i64 v2.op, .slice y2 v2.kids.length])) rfl rfl rfl gG rfl (Nat.le_of_ble_eq_true rfl) rfl rfl ?_)
   show TrP 159 _ _ _ _
   refine tH [(0, _), (1, _), (4, _), (5, _), (6, _), (7, _), (8, _), (17, _), (18, _)] ?_
   refine tR ?_
   refine sV rfl rfl rfl ?_
   exact ⟨prg la lb (mkF [102] [[105], [106], [107], [108], [109], [111], [112], [113], [114]] b1 v1) (fnG b2 v2), _, _, hRd.c0, (hRd.low0 (by decide) (by have := hRd.hv1.ht4 (by omega); omega)), lprog (ida := ida) (idf := idf) gG gG ⟨p1, _, _, _, rfl, (hLd.keep (by repeat (first | assumption | exact Kp.refl | refine Kp.push ?_ | refine Kp.set ?_ lL (by first | (left; simp; done) | (right; first | omega | (simp only [Heap.n_push, Heap.n_set]; omega)))))).2.1, (row_str [[105], [106], [107], [108], [109], [111], [112], [113], [114]] gG), hLd.body (by repeat (first | assumption | exact Kp.refl | refine Kp.push ?_ | refine Kp.set ?_ lL (by first | (left; simp; done) | (right; first | omega | (simp only [Heap.n_push, Heap.n_set]; omega))))), (hLd.keep (by repeat (first | assumption | exact Kp.refl | refine Kp.push ?_ | refine Kp.set ?_ lL (by first | (left; simp; done) | (right; first | omega | (simp only [Heap.n_push, Heap.n_set]; omega)))))).2.2.2.1⟩ (hLd.keep (by repeat (first | assumption | exact Kp.refl | refine Kp.push ?_ | refine Kp.set ?_ lL (by first | (left; simp; done) | (right; first | omega | (simp only [Heap.n_push, Heap.n_set]; omega)))))).1, gG, rfl, ⟨rfl, rfl, trivial⟩⟩
  ·
   refine sV rfl rfl rfl ?_
   show TrP 159 _ _ _ _
   refine tH [(0, _), (1, _), (4, _), (5, _), (6, _), (7, _), (8, _), (17, _), (18, _)] ?_
   refine tF rfl ?_
   refine Tri.seq ?_
   refine tR ?_
   refine sO rfl rfl (oE rfl (fun h32 => ?_) (fun h32 => ?_))
   ·
    refine sV rfl rfl rfl ?_
    show TrP 159 _ _ _ _
    refine tH [(0, _), (1, _), (4, _), (5, _), (6, _), (7, _), (8, _), (17, _), (18, _), (31, _)] ?_
    refine tT rfl ?_
    refine Tri.seq ?_
    refine tR ?_
    refine sO rfl rfl (oW (at' (.ptr (some (_, 0)))) rfl rfl ?_)
    refine sO rfl rfl (oLoad (x := .at _) rfl gG rfl ?_)
    refine sO rfl rfl (oIA (z := 2) (i := 0) rfl rfl rfl rfl (by omega) ?_)
    refine sO rfl rfl (oW (at' (.ptr (some (_, _ + 1)))) rfl rfl ?_)
    refine sO rfl rfl (oStore (n := 1) (cs' := [.str [97], .int .i64 17, .str [98], .int .i64 lb]) rfl rfl rfl gG rfl (Nat.le_of_ble_eq_true rfl) rfl rfl ?_)
    show TrP 159 _ _ _ _
    refine tH [(0, _), (1, _), (4, _), (5, _), (6, _), (7, _), (8, _), (17, _), (18, _), (31, _)] ?_
    refine tR ?_
    refine sV rfl rfl rfl ?_
    exact ⟨prg 17 lb (fnF b1 v1) (fnG b2 v2), _, _, c1, (hRd.low0 (nm := [102]) (ls := ijL) (nm2 := [103]) (by decide) (by have := hRd.hv1.ht4 (by omega); omega)), lprog (ida := ida) (idf := idf) gG gG ⟨p1, _, _, _, rfl, (hLd.keep (by repeat (first | assumption | exact Kp.refl | refine Kp.push ?_ | refine Kp.set ?_ lL (by first | (left; simp; done) | (right; first | omega | (simp only [Heap.n_push, Heap.n_set]; omega)))))).2.1, (hLd.keep (by repeat (first | assumption | exact Kp.refl | refine Kp.push ?_ | refine Kp.set ?_ lL (by first | (left; simp; done) | (right; first | omega | (simp only [Heap.n_push, Heap.n_set]; omega)))))).2.2.1, hLd.body (by repeat (first | assumption | exact Kp.refl | refine Kp.push ?_ | refine Kp.set ?_ lL (by first | (left; simp; done) | (right; first | omega | (simp only [Heap.n_push, Heap.n_set]; omega))))), (hLd.keep (by repeat (first | assumption | exact Kp.refl | refine Kp.push ?_ | refine Kp.set ?_ lL (by first | (left; simp; done) | (right; first | omega | (simp only [Heap.n_push, Heap.n_set]; omega)))))).2.2.2.1⟩ (hLd.keep (by repeat (first | assumption | exact Kp.refl | refine Kp.push ?_ | refine Kp.set ?_ lL (by first | (left; simp; done) | (right; first | omega | (simp only [Heap.n_push, Heap.n_set]; omega)))))).1, gG, rfl, ⟨rfl, rfl, trivial⟩⟩
   ·
    refine sV rfl rfl rfl ?_
    show TrP 159 _ _ _ _
    refine tH [(0, _), (1, _), (4, _), (5, _), (6, _), (7, _), (8, _), (17, _), (18, _), (31, _)] ?_
    refine tF rfl ?_
    refine Tri.seq ?_
    refine tR ?_
    refine sO rfl rfl (oE rfl (fun h38 => ?_) (fun h38 => ?_))
    ·
     refine sV rfl rfl rfl ?_
     show TrP 159 _ _ _ _
     refine tH [(0, _), (1, _), (4, _), (5, _), (6, _), (7, _), (8, _), (17, _), (18, _), (31, _), (37, _)] ?_
     refine tT rfl ?_
     refine Tri.seq ?_
     refine tR ?_
     refine sV rfl rfl rfl ?_
     refine sO rfl rfl (oLoad (x := .agg [_, _, _, _, _]) rfl gG rfl ?_)
     refine sV rfl rfl rfl ?_
     refine sO rfl rfl (oW (at' (.ptr (some (_, _ + 4)))) rfl rfl ?_)
     refine sO rfl rfl (oStore (n := 5) (cs' := (fnD [102] (.slice p1 2) (.slice (some (idl, 0)) 2) (.slice q1 b1.length) [.int .i64 1, .int .i64 0, .str [], .int .i64 0, .slice none 0] ++ fnD [103] (.slice p2 1) (.slice l2 1) (.slice q2 b2.length) [.int .i64 v2.kind, .int .i64 v2.n, .str v2.name, .int .i64 v2.op, .slice y2 v2.kids.length])) rfl rfl rfl gG rfl (Nat.le_of_ble_eq_true rfl) rfl rfl ?_)
     show TrP 159 _ _ _ _
     refine tH [(0, _), (1, _), (4, _), (5, _), (6, _), (7, _), (8, _), (17, _), (18, _), (31, _), (37, _)] ?_
     refine Tri.seq ?_
     refine Tri.seq ?_
     refine tR ?_
     refine sV rfl rfl rfl ?_
     show TrP 159 _ _ _ _
     refine tH [(0, _), (1, _), (4, _), (5, _), (6, _), (7, _), (8, _), (9, _), (17, _), (18, _), (31, _), (37, _)] ?_
     refine Tri.block ?_
     refine Tri.loop (fun k' lk1 H1 => ∃ (i : Nat) (cv : List AT), k' = 21 - i ∧ i ≤ 21 ∧ Kp [idf] G H1 ∧ LX (H1.cuts [idf]) (negs i) cv ∧ H1.get idf = some (.cells 28 2 (fnD [102] (.slice p1 2) (.slice (some (idl, 0)) 2) (.slice q1 b1.length) cv ++ fnD [103] (.slice p2 1) (.slice l2 1) (.slice q2 b2.length) [.int .i64 v2.kind, .int .i64 v2.n, .str v2.name, .int .i64 v2.op, .slice y2 v2.kids.length])) ∧ H1.get G.n = some (.cells 32 1 [.slice (some (ida, 0)) 2, .slice (some (idf, 0)) 2]) ∧ G.n + 2 ≤ H1.n ∧ Has lk1 [(5, at' (.ptr (some (G.n, 0)))), (6, at' (.ptr (some (idf, 0 + 0 * 9)))), (9, at' (.int .i64 i))]) (21) (⟨0, [.int .i64 1, .int .i64 0, .str [], .int .i64 0, .slice none 0], rfl, by omega, (by repeat (first | exact Kp.refl | refine Kp.push ?_ | refine Kp.set ?_ lL (by first | (left; simp; done) | (right; first | omega | (simp only [Heap.n_push, Heap.n_set]; omega))))), numCL _, gG, gG, lE, ⟨rfl, rfl, rfl, trivial⟩⟩) ?_
     rintro k15 lk15 H15 ⟨i, cv, hk0, hi, hk15, hX, hf15, hp15, hn15, hh⟩
     refine Tri.has hh ?_
     refine Tri.seq ?_
     refine Tri.seq ?_
     refine tR ?_
     refine sV rfl rfl rfl ?_
     refine sO rfl rfl (oP rfl (fun h44 => ?_) (fun h44 => ?_))
     ·
      show TrP 159 _ _ _ _
      refine tH [(5, _), (6, _), (9, _), (44, _)] ?_
      refine tT rfl ?_
      refine Tri.skip ?_
      show TrP 159 _ _ _ _
      refine tH [(5, _), (6, _), (9, _), (44, _)] ?_
      refine Tri.seq ?_
      refine Tri.block ?_
      refine tR ?_
      iterate 3 refine sV rfl rfl rfl ?_
      refine sO rfl rfl (oW (at' (.ptr (some (_, _ + 4)))) rfl rfl ?_)
      obtain ⟨y5, rfl, _⟩ := hX.out
      refine sO rfl rfl (oLoad (x := .agg [_, _, _, _, _]) rfl gG rfl ?_)
      refine sO rfl rfl (oBS1 (n := 5) rfl rfl rfl rfl rfl (by omega) (by omega) rfl ?_)
      refine sO rfl rfl (oW (.one (.agg [_, .int .i64 0, .str [], _, _])) rfl rfl ?_)
      refine sV rfl rfl rfl ?_
      refine sO rfl rfl (oW (at' (.ptr (some (_, _ + 4)))) rfl rfl ?_)
      refine sO rfl rfl (oStore (n := 5) (cs' := (fnD [102] (.slice p1 2) (.slice (some (idl, 0)) 2) (.slice q1 b1.length) [.int .i64 4, .int .i64 0, .str [], .int .i64 20, .slice (some (H15.n, 0)) 1] ++ fnD [103] (.slice p2 1) (.slice l2 1) (.slice q2 b2.length) [.int .i64 v2.kind, .int .i64 v2.n, .str v2.name, .int .i64 v2.op, .slice y2 v2.kids.length])) rfl rfl rfl gG rfl (Nat.le_of_ble_eq_true rfl) rfl rfl ?_)
      show TrP 159 _ _ _ _
      refine tH [(5, _), (6, _), (9, _), (44, _)] ?_
      refine tR ?_
      refine sV rfl rfl rfl ?_
      refine sO rfl rfl (oAdd (m := 1) rfl (by omega) ?_)
      refine sV rfl rfl rfl ?_
      exact ⟨21 - (i + 1), by omega, i + 1, _, rfl, by omega, (Kp.set (Kp.push hk15) lL (.inl (by simp))), LX_iff.2 ⟨_, rfl, rowX1 (id := H15.n) (Heap.cuts_get gG (by simp; omega)) (hX.kp (Kp.cuts (ds := [idf]) (show Kp [idf] H15 _ from Kp.set (Kp.push Kp.refl) lL (.inl (by simp))) (fun d hd => .inl hd)))⟩, gG, gG, lE, ⟨rfl, rfl, rfl, trivial⟩⟩
     ·
      show TrP 159 _ _ _ _
      refine tH [(5, _), (6, _), (9, _), (44, _)] ?_
      refine tF rfl ?_
      refine Tri.exit ?_
      show TrP 159 _ _ _ _
      refine tH [(5, _), (6, _), (9, _), (44, _)] ?_
      refine tR ?_
      refine sV rfl rfl rfl ?_
      have e21 : i = 21 := by omega
      subst e21
      have hkA : Kp ([ida, idf] ++ ridq q1) G H15 := (Kp.weaken hk15 (by intro d hd; simp only [List.mem_cons, List.not_mem_nil, or_false] at hd; subst hd; simp))
      have hkB : Kp [ida, idf] G H15 := (Kp.weaken hk15 (by intro d hd; simp only [List.mem_cons, List.not_mem_nil, or_false] at hd; subst hd; simp))
      have hA15 := hk15.g _ _ hA rfl (by simpa using hne)
      exact ⟨prg la lb (mkF [102] ijL b1 (negs 21)) (fnG b2 v2), _, _, c2, (hRd.low0 (by decide) (by decide)), lprog (ida := ida) (idf := idf) gG gG ⟨p1, _, _, _, rfl, (hLd.keep hkA).2.1, (hLd.keep hkA).2.2.1, hLd.body hkB, hX.kp (Kp.uncut _ _)⟩ (hLd.keep hkA).1, gG, rfl, ⟨rfl, rfl, trivial⟩⟩
    ·
     refine sV rfl rfl rfl ?_
     show TrP 159 _ _ _ _
     refine tH [(0, _), (1, _), (4, _), (5, _), (6, _), (7, _), (8, _), (17, _), (18, _), (31, _), (37, _)] ?_
     refine tF rfl ?_
     refine Tri.seq ?_
     refine tR ?_
     refine sO rfl rfl (oE rfl (fun h57 => ?_) (fun h57 => ?_))
     ·
      refine sV rfl rfl rfl ?_
      show TrP 159 _ _ _ _
      refine tH [(0, _), (1, _), (4, _), (5, _), (6, _), (7, _), (8, _), (17, _), (18, _), (31, _), (37, _), (56, _)] ?_
      refine tT rfl ?_
      refine Tri.seq ?_
      refine tR ?_
      iterate 2 refine sV rfl rfl rfl ?_
      refine sO rfl rfl (oW (at' (.ptr (some (_, _ + 0)))) rfl rfl ?_)
      refine sO rfl rfl (oStore (n := 1) (cs' := (fnD [119, 104, 105, 108, 101] (.slice p1 2) (.slice (some (idl, 0)) 2) (.slice q1 b1.length) [.int .i64 v1.kind, .int .i64 v1.n, .str v1.name, .int .i64 v1.op, .slice y1 v1.kids.length] ++ fnD [103] (.slice p2 1) (.slice l2 1) (.slice q2 b2.length) [.int .i64 v2.kind, .int .i64 v2.n, .str v2.name, .int .i64 v2.op, .slice y2 v2.kids.length])) rfl rfl rfl gG rfl (Nat.le_of_ble_eq_true rfl) rfl rfl ?_)
      show TrP 159 _ _ _ _
      refine tH [(0, _), (1, _), (4, _), (5, _), (6, _), (7, _), (8, _), (17, _), (18, _), (31, _), (37, _), (56, _)] ?_
      refine tR ?_
      refine sV rfl rfl rfl ?_
      exact ⟨prg la lb (mkF [119, 104, 105, 108, 101] ijL b1 v1) (fnG b2 v2), _, _, hRd.c3, (hRd.low0 (by decide) (by have := hRd.hv1.ht4 (by omega); omega)), lprog (ida := ida) (idf := idf) gG gG ⟨p1, _, _, _, rfl, (hLd.keep (by repeat (first | assumption | exact Kp.refl | refine Kp.push ?_ | refine Kp.set ?_ lL (by first | (left; simp; done) | (right; first | omega | (simp only [Heap.n_push, Heap.n_set]; omega)))))).2.1, (hLd.keep (by repeat (first | assumption | exact Kp.refl | refine Kp.push ?_ | refine Kp.set ?_ lL (by first | (left; simp; done) | (right; first | omega | (simp only [Heap.n_push, Heap.n_set]; omega)))))).2.2.1, hLd.body (by repeat (first | assumption | exact Kp.refl | refine Kp.push ?_ | refine Kp.set ?_ lL (by first | (left; simp; done) | (right; first | omega | (simp only [Heap.n_push, Heap.n_set]; omega))))), (hLd.keep (by repeat (first | assumption | exact Kp.refl | refine Kp.push ?_ | refine Kp.set ?_ lL (by first | (left; simp; done) | (right; first | omega | (simp only [Heap.n_push, Heap.n_set]; omega)))))).2.2.2.1⟩ (hLd.keep (by repeat (first | assumption | exact Kp.refl | refine Kp.push ?_ | refine Kp.set ?_ lL (by first | (left; simp; done) | (right; first | omega | (simp only [Heap.n_push, Heap.n_set]; omega)))))).1, gG, rfl, ⟨rfl, rfl, trivial⟩⟩
     ·
      refine sV rfl rfl rfl ?_
      show TrP 159 _ _ _ _
      refine tH [(0, _), (1, _), (4, _), (5, _), (6, _), (7, _), (8, _), (17, _), (18, _), (31, _), (37, _), (56, _)] ?_
      refine tF rfl ?_
      refine Tri.seq ?_
      refine tR ?_
      refine sO rfl rfl (oE rfl (fun h62 => ?_) (fun h62 => ?_))
      ·
       refine sV rfl rfl rfl ?_
       show TrP 159 _ _ _ _
       refine tH [(0, _), (1, _), (4, _), (5, _), (6, _), (7, _), (8, _), (17, _), (18, _), (31, _), (37, _), (56, _), (61, _)] ?_
       refine tT rfl ?_
       refine Tri.seq ?_
       refine tR ?_
       refine sV rfl rfl rfl ?_
       refine sO rfl rfl (oLoad (x := .agg [_, _, _, _, _]) rfl gG rfl ?_)
       refine sO rfl rfl (oLoad (x := .agg [_, _, _, _, _]) rfl gG rfl ?_)
       refine sO rfl rfl (oB25 rfl rfl rfl rfl rfl rfl ?_)
       refine sO rfl rfl (oW (.one (.agg [_, .int .i64 0, .str [], _, _])) rfl rfl ?_)
       refine sV rfl rfl rfl ?_
       refine sO rfl rfl (oW (at' (.ptr (some (_, _ + 4)))) rfl rfl ?_)
       refine sO rfl rfl (oStore (n := 5) (cs' := (fnD [102] (.slice p1 2) (.slice (some (idl, 0)) 2) (.slice q1 b1.length) [.int .i64 4, .int .i64 0, .str [], .int .i64 19, .slice (some (_, 0)) 2] ++ fnD [103] (.slice p2 1) (.slice l2 1) (.slice q2 b2.length) [.int .i64 v2.kind, .int .i64 v2.n, .str v2.name, .int .i64 v2.op, .slice y2 v2.kids.length])) rfl rfl rfl gG rfl (Nat.le_of_ble_eq_true rfl) rfl rfl ?_)
       show TrP 159 _ _ _ _
       refine tH [(0, _), (1, _), (4, _), (5, _), (6, _), (7, _), (8, _), (17, _), (18, _), (31, _), (37, _), (56, _), (61, _)] ?_
       refine tR ?_
       refine sV rfl rfl rfl ?_
       exact ⟨prg la lb (mkF [102] ijL b1 ltu) (fnG b2 v2), _, _, hRd.c4, (hRd.low0 (by decide) (by decide)), lprog (ida := ida) (idf := idf) gG gG ⟨p1, _, _, _, rfl, (hLd.keep (by repeat (first | assumption | exact Kp.refl | refine Kp.push ?_ | refine Kp.set ?_ lL (by first | (left; simp; done) | (right; first | omega | (simp only [Heap.n_push, Heap.n_set]; omega)))))).2.1, (hLd.keep (by repeat (first | assumption | exact Kp.refl | refine Kp.push ?_ | refine Kp.set ?_ lL (by first | (left; simp; done) | (right; first | omega | (simp only [Heap.n_push, Heap.n_set]; omega)))))).2.2.1, hLd.body (by repeat (first | assumption | exact Kp.refl | refine Kp.push ?_ | refine Kp.set ?_ lL (by first | (left; simp; done) | (right; first | omega | (simp only [Heap.n_push, Heap.n_set]; omega))))), (LX_iff.2 ⟨_, rfl, rowX2 gG (numCL _) (numCL _)⟩)⟩ (hLd.keep (by repeat (first | assumption | exact Kp.refl | refine Kp.push ?_ | refine Kp.set ?_ lL (by first | (left; simp; done) | (right; first | omega | (simp only [Heap.n_push, Heap.n_set]; omega)))))).1, gG, rfl, ⟨rfl, rfl, trivial⟩⟩
      ·
       refine sV rfl rfl rfl ?_
       show TrP 159 _ _ _ _
       refine tH [(0, _), (1, _), (4, _), (5, _), (6, _), (7, _), (8, _), (17, _), (18, _), (31, _), (37, _), (56, _), (61, _)] ?_
       refine tF rfl ?_
       refine Tri.seq ?_
       refine tR ?_
       refine sO rfl rfl (oE rfl (fun h71 => ?_) (fun h71 => ?_))
       ·
        refine sV rfl rfl rfl ?_
        show TrP 159 _ _ _ _
        refine tH [(0, _), (1, _), (4, _), (5, _), (6, _), (7, _), (8, _), (17, _), (18, _), (31, _), (37, _), (56, _), (61, _), (70, _)] ?_
        refine tT rfl ?_
        refine Tri.seq ?_
        refine drawnTwo1 mixed eqsOk (eqs := eqs) 9 12 (by decide) ⟨[0, 1, 3, 7, 0, 15, 0, 127, 255, 511, 255, 1279, 4095], [0, 0, 0, 0, 0, 0, 0, 0, 0, 0, 0, 0, 0], 1, [0, 1, 2, 3, 4, 5, 6, 7, 8, 10, 11, 9, 12]⟩ ⟨[0, 1, 3, 7, 0, 15, 0, 127, 255, 7679, 255, 1279, 3327], [0, 0, 0, 0, 0, 0, 0, 0, 0, 0, 0, 0, 0], 1, [0, 1, 2, 3, 4, 5, 6, 7, 8, 10, 11, 12, 9]⟩ (by decide +kernel) (by decide +kernel) rfl rfl ?_ ?_
        ·
         refine dL rfl rfl rfl rfl (oV rfl ?_)
         refine dL rfl rfl rfl rfl (oV rfl ?_)
         refine dL rfl rfl rfl rfl (oW (at' (.ptr (some (_, _ + 3)))) rfl rfl ?_)
         refine dR0 rfl rfl rfl rfl (op_load_at (x := .at (.slice q1 b1.length)) rfl gG rfl) ?_
         refine dL rfl rfl rfl rfl (oW (.one (.agg [_, .str [], .str [], _, .int .i64 0, .int .i64 0, .str [], .int .i64 0, .slice none 0, .int .i64 0, .int .i64 0, .str [], .int .i64 0, .slice none 0, .slice none 0, .slice none 0, .slice none 0])) rfl rfl ?_)
         refine dR0 rfl rfl rfl rfl rfl ?_
         refine dM rfl rfl rfl rfl (obj := .cells 46 2 zeS) (v := at' (.slice (some (G.n + 2 + 0, 0)) 1)) rfl ?_
         refine dCm (Heap.set (Heap.push _ .dead) (G.n + 2 + 0) _) (.drop rfl .nil) (.drop rfl (.drop rfl .nil)) rfl rfl rfl rfl rfl (oAppK (lo := 0) (n := b1.length) (m := 1) (cs := csb) (new := zeS) rfl rfl rfl rfl (hrab.kp (show Kp [] G _ from kZ)) rfl gG rfl rfl rfl rfl rfl rfl rfl hclb (by have := hRd.hl1; (show (b1.length + 1) * 248 ≤ _); omega) (by have := hRd.hl1; omega) (fun a4 H4 hr4 hk4 ⟨id4, ha4, hid4, hg4⟩ => ?_))
         subst ha4
         have hg4l := Heap.get_lt hg4
         (try simp only [Heap.n_push, Heap.n_set] at hid4)
         have hk4n := hk4.n
         (try simp only [Heap.n_push, Heap.n_set] at hk4n)
         rw [rid_slice] at hk4
         have hx : idf ∉ ridq q1 ∧ ida ∉ ridq q1 := objs_q hND
         have hqn : G.n ∉ ridq q1 := fun hm => by have := (hrb _ (by rw [rid_slice]; exact hm)).2; omega
         have hf4 : H4.get idf = some (.cells 28 2 (fnD [102] (.slice p1 2) (.slice (some (idl, 0)) 2) (.slice q1 b1.length) [.int .i64 v1.kind, .int .i64 v1.n, .str v1.name, .int .i64 v1.op, .slice y1 v1.kids.length] ++ fnD [103] (.slice p2 1) (.slice l2 1) (.slice q2 b2.length) [.int .i64 v2.kind, .int .i64 v2.n, .str v2.name, .int .i64 v2.op, .slice y2 v2.kids.length])) := hk4.g _ _ gG rfl hx.1
         have ha4 : H4.get ida = some (.cells 44 2 [.str [97], .int .i64 la, .str [98], .int .i64 lb]) := hk4.g _ _ gG rfl hx.2
         have hp4 : H4.get G.n = some (.cells 32 1 [.slice (some (ida, 0)) 2, .slice (some (idf, 0)) 2]) := hk4.g _ _ gG rfl hqn
         have K4 : Kp ([ida, idf] ++ ridq q1) G H4 := Kp.trans (show Kp ([ida, idf] ++ ridq q1) G _ from kZ) hk4 (fun d hd => .inl (List.mem_append_right _ hd))
         refine ⟨⟨.inl rfl, .inl rfl, trivial⟩, ?_⟩
         refine dL rfl rfl rfl rfl (oIA (z := 17) (i := b1.length) (n := b1.length + 1) rfl rfl rfl rfl (by omega) ?_)
         refine dL rfl rfl rfl rfl (oV rfl ?_)
         refine dL rfl rfl rfl rfl (oW (at' (.ptr (some (_, _ + 3)))) rfl rfl ?_)
         refine dC0 .nil rfl rfl rfl rfl (oStore (n := 17) (cs' := csb ++ (stC 7 [] [] (-1) zeX zeX (.slice none 0) (.slice none 0) (.slice none 0))) rfl rfl rfl gG rfl (by rw [List.length_append, hclb]; show 0 + b1.length * 17 + 17 ≤ b1.length * 17 + 17; omega) rfl (putL_snoc (z := zeS) (by rw [hclb]; omega) rfl) ?_)
         refine ⟨trivial, ?_⟩
         refine dC0 .nil rfl rfl rfl rfl (oStore (n := 1) (cs' := (fnD [102] (.slice p1 2) (.slice (some (idl, 0)) 2) (.slice (some (id4, 0)) (b1.length + 1)) [.int .i64 v1.kind, .int .i64 v1.n, .str v1.name, .int .i64 v1.op, .slice y1 v1.kids.length] ++ fnD [103] (.slice p2 1) (.slice l2 1) (.slice q2 b2.length) [.int .i64 v2.kind, .int .i64 v2.n, .str v2.name, .int .i64 v2.op, .slice y2 v2.kids.length])) rfl rfl rfl gG rfl (Nat.le_of_ble_eq_true rfl) rfl rfl ?_)
         refine ⟨trivial, ?_⟩
         refine dE0 ?_
         show TrP 159 _ _ _ _
         refine tH [(0, _), (1, _), (4, _), (5, _), (6, _), (7, _), (8, _), (17, _), (18, _), (31, _), (37, _), (56, _), (61, _), (70, _)] ?_
         refine tR ?_
         refine sV rfl rfl rfl ?_
         exact ⟨prg la lb (fnF (b1 ++ [st5]) v1) (fnG b2 v2), _, _, hRd.c5, (hRd.low (nm := [102]) (nm2 := [103]) (ls := ijL) (x := [st5]) (by decide) (by decide) (by decide) (by have := hRd.hv1.ht4 (by omega); omega)), lprog (ida := ida) (idf := idf) gG gG ⟨p1, _, some (id4, 0), _, by simp [fnD, fnF], (hLd.keep (by repeat (first | assumption | exact Kp.refl | refine Kp.push ?_ | refine Kp.set ?_ lL (by first | (left; simp; done) | (right; first | omega | (simp only [Heap.n_push, Heap.n_set]; omega)))))).2.1, (hLd.keep (by repeat (first | assumption | exact Kp.refl | refine Kp.push ?_ | refine Kp.set ?_ lL (by first | (left; simp; done) | (right; first | omega | (simp only [Heap.n_push, Heap.n_set]; omega)))))).2.2.1, (rowA_snoc (x := st5) hclb gG (hLb.imp fun s _ => LM.kp (hLd.keep (by repeat (first | assumption | exact Kp.refl | refine Kp.push ?_ | refine Kp.set ?_ lL (by first | (left; simp; done) | (right; first | omega | (simp only [Heap.n_push, Heap.n_set]; omega)))))).2.2.2.2 s) (stL (pa := none) (pt := none) (pe := none) (zeXL _) (zeXL _) RowQ.nil RowQ.nil RowQ.nil)), (hLd.keep (by repeat (first | assumption | exact Kp.refl | refine Kp.push ?_ | refine Kp.set ?_ lL (by first | (left; simp; done) | (right; first | omega | (simp only [Heap.n_push, Heap.n_set]; omega)))))).2.2.2.1⟩ (hLd.keep (by repeat (first | assumption | exact Kp.refl | refine Kp.push ?_ | refine Kp.set ?_ lL (by first | (left; simp; done) | (right; first | omega | (simp only [Heap.n_push, Heap.n_set]; omega)))))).1, gG, rfl, ⟨rfl, rfl, trivial⟩⟩
        ·
         refine dL rfl rfl rfl rfl (oV rfl ?_)
         refine dL rfl rfl rfl rfl (oV rfl ?_)
         refine dL rfl rfl rfl rfl (oW (at' (.ptr (some (_, _ + 3)))) rfl rfl ?_)
         refine dR0 rfl rfl rfl rfl (op_load_at (x := .at (.slice q1 b1.length)) rfl gG rfl) ?_
         refine dL rfl rfl rfl rfl (oW (.one (.agg [_, .str [], .str [], _, .int .i64 0, .int .i64 0, .str [], .int .i64 0, .slice none 0, .int .i64 0, .int .i64 0, .str [], .int .i64 0, .slice none 0, .slice none 0, .slice none 0, .slice none 0])) rfl rfl ?_)
         refine dR0 rfl rfl rfl rfl rfl ?_
         refine dM rfl rfl rfl rfl (obj := .cells 46 2 zeS) (v := at' (.slice (some (G.n + 2 + 0, 0)) 1)) rfl ?_
         refine dCm (Heap.set (Heap.push _ .dead) (G.n + 2 + 0) _) (.drop rfl .nil) (.drop rfl (.drop rfl .nil)) rfl rfl rfl rfl rfl (oAppK (lo := 0) (n := b1.length) (m := 1) (cs := csb) (new := zeS) rfl rfl rfl rfl (hrab.kp (show Kp [] G _ from kZ)) rfl gG rfl rfl rfl rfl rfl rfl rfl hclb (by have := hRd.hl1; (show (b1.length + 1) * 248 ≤ _); omega) (by have := hRd.hl1; omega) (fun a4 H4 hr4 hk4 ⟨id4, ha4, hid4, hg4⟩ => ?_))
         subst ha4
         have hg4l := Heap.get_lt hg4
         (try simp only [Heap.n_push, Heap.n_set] at hid4)
         have hk4n := hk4.n
         (try simp only [Heap.n_push, Heap.n_set] at hk4n)
         rw [rid_slice] at hk4
         have hx : idf ∉ ridq q1 ∧ ida ∉ ridq q1 := objs_q hND
         have hqn : G.n ∉ ridq q1 := fun hm => by have := (hrb _ (by rw [rid_slice]; exact hm)).2; omega
         have hf4 : H4.get idf = some (.cells 28 2 (fnD [102] (.slice p1 2) (.slice (some (idl, 0)) 2) (.slice q1 b1.length) [.int .i64 v1.kind, .int .i64 v1.n, .str v1.name, .int .i64 v1.op, .slice y1 v1.kids.length] ++ fnD [103] (.slice p2 1) (.slice l2 1) (.slice q2 b2.length) [.int .i64 v2.kind, .int .i64 v2.n, .str v2.name, .int .i64 v2.op, .slice y2 v2.kids.length])) := hk4.g _ _ gG rfl hx.1
         have ha4 : H4.get ida = some (.cells 44 2 [.str [97], .int .i64 la, .str [98], .int .i64 lb]) := hk4.g _ _ gG rfl hx.2
         have hp4 : H4.get G.n = some (.cells 32 1 [.slice (some (ida, 0)) 2, .slice (some (idf, 0)) 2]) := hk4.g _ _ gG rfl hqn
         have K4 : Kp ([ida, idf] ++ ridq q1) G H4 := Kp.trans (show Kp ([ida, idf] ++ ridq q1) G _ from kZ) hk4 (fun d hd => .inl (List.mem_append_right _ hd))
         refine ⟨⟨.inl rfl, .inl rfl, trivial⟩, ?_⟩
         refine dL rfl rfl rfl rfl (oIA (z := 17) (i := b1.length) (n := b1.length + 1) rfl rfl rfl rfl (by omega) ?_)
         refine dL rfl rfl rfl rfl (oV rfl ?_)
         refine dL rfl rfl rfl rfl (oW (at' (.ptr (some (_, _ + 3)))) rfl rfl ?_)
         refine dC0 .nil rfl rfl rfl rfl (oStore (n := 1) (cs' := (fnD [102] (.slice p1 2) (.slice (some (idl, 0)) 2) (.slice (some (id4, 0)) (b1.length + 1)) [.int .i64 v1.kind, .int .i64 v1.n, .str v1.name, .int .i64 v1.op, .slice y1 v1.kids.length] ++ fnD [103] (.slice p2 1) (.slice l2 1) (.slice q2 b2.length) [.int .i64 v2.kind, .int .i64 v2.n, .str v2.name, .int .i64 v2.op, .slice y2 v2.kids.length])) rfl rfl rfl gG rfl (Nat.le_of_ble_eq_true rfl) rfl rfl ?_)
         refine ⟨trivial, ?_⟩
         refine dC0 .nil rfl rfl rfl rfl (oStore (n := 17) (cs' := csb ++ (stC 7 [] [] (-1) zeX zeX (.slice none 0) (.slice none 0) (.slice none 0))) rfl rfl rfl gG rfl (by rw [List.length_append, hclb]; show 0 + b1.length * 17 + 17 ≤ b1.length * 17 + 17; omega) rfl (putL_snoc (z := zeS) (by rw [hclb]; omega) rfl) ?_)
         refine ⟨trivial, ?_⟩
         refine dE0 ?_
         show TrP 159 _ _ _ _
         refine tH [(0, _), (1, _), (4, _), (5, _), (6, _), (7, _), (8, _), (17, _), (18, _), (31, _), (37, _), (56, _), (61, _), (70, _)] ?_
         refine tR ?_
         refine sV rfl rfl rfl ?_
         exact ⟨prg la lb (fnF (b1 ++ [st5]) v1) (fnG b2 v2), _, _, hRd.c5, (hRd.low (nm := [102]) (nm2 := [103]) (ls := ijL) (x := [st5]) (by decide) (by decide) (by decide) (by have := hRd.hv1.ht4 (by omega); omega)), lprog (ida := ida) (idf := idf) gG gG ⟨p1, _, some (id4, 0), _, by simp [fnD, fnF], (hLd.keep (by repeat (first | assumption | exact Kp.refl | refine Kp.push ?_ | refine Kp.set ?_ lL (by first | (left; simp; done) | (right; first | omega | (simp only [Heap.n_push, Heap.n_set]; omega)))))).2.1, (hLd.keep (by repeat (first | assumption | exact Kp.refl | refine Kp.push ?_ | refine Kp.set ?_ lL (by first | (left; simp; done) | (right; first | omega | (simp only [Heap.n_push, Heap.n_set]; omega)))))).2.2.1, (rowA_snoc (x := st5) hclb gG (hLb.imp fun s _ => LM.kp (hLd.keep (by repeat (first | assumption | exact Kp.refl | refine Kp.push ?_ | refine Kp.set ?_ lL (by first | (left; simp; done) | (right; first | omega | (simp only [Heap.n_push, Heap.n_set]; omega)))))).2.2.2.2 s) (stL (pa := none) (pt := none) (pe := none) (zeXL _) (zeXL _) RowQ.nil RowQ.nil RowQ.nil)), (hLd.keep (by repeat (first | assumption | exact Kp.refl | refine Kp.push ?_ | refine Kp.set ?_ lL (by first | (left; simp; done) | (right; first | omega | (simp only [Heap.n_push, Heap.n_set]; omega)))))).2.2.2.1⟩ (hLd.keep (by repeat (first | assumption | exact Kp.refl | refine Kp.push ?_ | refine Kp.set ?_ lL (by first | (left; simp; done) | (right; first | omega | (simp only [Heap.n_push, Heap.n_set]; omega)))))).1, gG, rfl, ⟨rfl, rfl, trivial⟩⟩
       ·
        refine sV rfl rfl rfl ?_
        show TrP 159 _ _ _ _
        refine tH [(0, _), (1, _), (4, _), (5, _), (6, _), (7, _), (8, _), (17, _), (18, _), (31, _), (37, _), (56, _), (61, _), (70, _)] ?_
        refine tF rfl ?_
        refine Tri.seq ?_
        refine tR ?_
        refine sO rfl rfl (oE rfl (fun h84 => ?_) (fun h84 => ?_))
        ·
         refine sV rfl rfl rfl ?_
         show TrP 159 _ _ _ _
         refine tH [(0, _), (1, _), (4, _), (5, _), (6, _), (7, _), (8, _), (17, _), (18, _), (31, _), (37, _), (56, _), (61, _), (70, _), (83, _)] ?_
         refine tT rfl ?_
         refine Tri.seq ?_
         refine drawnTwo2 mixed eqsOk (eqs := eqs) 12 15 (by decide) ⟨[0, 1, 3, 7, 0, 0, 32, 112, 15, 0, 1023, 2047, 4095, 2047, 10239, 32767], [0, 0, 0, 0, 0, 0, 0, 0, 0, 1, 0, 0, 0, 0, 0, 0], 2, [0, 1, 2, 3, 4, 5, 6, 7, 8, 9, 10, 11, 13, 14, 12, 15]⟩ ⟨[0, 1, 3, 7, 0, 0, 32, 112, 15, 0, 1023, 2047, 61439, 2047, 10239, 26623], [0, 0, 0, 0, 0, 0, 0, 0, 0, 1, 0, 0, 0, 0, 0, 0], 2, [0, 1, 2, 3, 4, 5, 6, 7, 8, 9, 10, 11, 13, 14, 15, 12]⟩ (by decide +kernel) (by decide +kernel) rfl rfl ?_ ?_
         ·
          refine dL rfl rfl rfl rfl (oV rfl ?_)
          refine dL rfl rfl rfl rfl (oV rfl ?_)
          refine dL rfl rfl rfl rfl (oW (at' (.ptr (some (_, _ + 3)))) rfl rfl ?_)
          refine dR0 rfl rfl rfl rfl (op_load_at (x := .at (.slice q1 b1.length)) rfl gG rfl) ?_
          refine dR0 rfl rfl rfl rfl (op_load_at (x := .agg [_, _, _, _, _]) rfl gG rfl) ?_
          refine dL rfl rfl rfl rfl (oW (.one (.agg [_, .str [], .str [], .int .i64 0, .int .i64 0, .int .i64 0, .str [], .int .i64 0, .slice none 0, .int .i64 0, .int .i64 0, .str [], .int .i64 0, .slice none 0, .slice none 0, .slice none 0, .slice none 0])) rfl rfl ?_)
          refine dM rfl rfl rfl rfl (obj := .cells 46 2 (stC 7 [] [] 0 zeX zeX (.slice none 0) (.slice none 0) (.slice none 0))) (v := at' (.slice (some (G.n + 2 + 0, 0)) 1)) rfl ?_
          refine dL rfl rfl rfl rfl (oW (.one (.agg [_, .str [], .str [], .int .i64 0, .int .i64 0, .int .i64 0, .str [], .int .i64 0, .slice none 0, _, _, _, _, _, .slice none 0, .slice none 0, _])) rfl rfl ?_)
          refine dRm _ rfl rfl rfl rfl rfl rfl ?_
          refine dM rfl rfl rfl rfl (obj := .cells 46 2 zeS) (v := at' (.slice (some (G.n + 2 + 1, 0)) 1)) rfl ?_
          refine dCm (Heap.set (Heap.set (Heap.push (Heap.push _ .dead) .dead) (G.n + 2 + 0) _) (G.n + 2 + 1) _) (.drop rfl (.drop rfl .nil)) (.drop rfl (.drop rfl (.drop rfl .nil))) rfl rfl rfl rfl rfl (oAppK (lo := 0) (n := b1.length) (m := 1) (cs := csb) (new := zeS) rfl rfl rfl rfl (hrab.kp (show Kp [] G _ from kZ)) rfl gG rfl rfl rfl rfl rfl rfl rfl hclb (by have := hRd.hl1; (show (b1.length + 1) * 248 ≤ _); omega) (by have := hRd.hl1; omega) (fun a4 H4 hr4 hk4 ⟨id4, ha4, hid4, hg4⟩ => ?_))
          subst ha4
          have hg4l := Heap.get_lt hg4
          (try simp only [Heap.n_push, Heap.n_set] at hid4)
          have hk4n := hk4.n
          (try simp only [Heap.n_push, Heap.n_set] at hk4n)
          rw [rid_slice] at hk4
          have hx : idf ∉ ridq q1 ∧ ida ∉ ridq q1 := objs_q hND
          have hqn : G.n ∉ ridq q1 := fun hm => by have := (hrb _ (by rw [rid_slice]; exact hm)).2; omega
          have hf4 : H4.get idf = some (.cells 28 2 (fnD [102] (.slice p1 2) (.slice (some (idl, 0)) 2) (.slice q1 b1.length) [.int .i64 v1.kind, .int .i64 v1.n, .str v1.name, .int .i64 v1.op, .slice y1 v1.kids.length] ++ fnD [103] (.slice p2 1) (.slice l2 1) (.slice q2 b2.length) [.int .i64 v2.kind, .int .i64 v2.n, .str v2.name, .int .i64 v2.op, .slice y2 v2.kids.length])) := hk4.g _ _ gG rfl hx.1
          have ha4 : H4.get ida = some (.cells 44 2 [.str [97], .int .i64 la, .str [98], .int .i64 lb]) := hk4.g _ _ gG rfl hx.2
          have hp4 : H4.get G.n = some (.cells 32 1 [.slice (some (ida, 0)) 2, .slice (some (idf, 0)) 2]) := hk4.g _ _ gG rfl hqn
          have K4 : Kp ([ida, idf] ++ ridq q1) G H4 := Kp.trans (show Kp ([ida, idf] ++ ridq q1) G _ from kZ) hk4 (fun d hd => .inl (List.mem_append_right _ hd))
          have hel4 : H4.get (G.n + 2 + 0) = some (.cells 46 2 (stC 7 [] [] 0 zeX zeX (.slice none 0) (.slice none 0) (.slice none 0))) := hk4.g _ _ gG rfl (fun hm => by have := (hrb _ (by rw [rid_slice]; exact hm)).2; omega)
          refine ⟨⟨.inl rfl, .inl rfl, .inl rfl, trivial⟩, ?_⟩
          refine dL rfl rfl rfl rfl (oIA (z := 17) (i := b1.length) (n := b1.length + 1) rfl rfl rfl rfl (by omega) ?_)
          refine dL rfl rfl rfl rfl (oV rfl ?_)
          refine dL rfl rfl rfl rfl (oW (at' (.ptr (some (_, _ + 3)))) rfl rfl ?_)
          refine dC0 .nil rfl rfl rfl rfl (oStore (n := 17) (cs' := csb ++ (stC 4 [] [] 0 zeX [.int .i64 1, .int .i64 0, .str [], .int .i64 0, .slice none 0] (.slice none 0) (.slice none 0) (.slice (some (G.n + 2 + 0, 0)) 1))) rfl rfl rfl gG rfl (by rw [List.length_append, hclb]; show 0 + b1.length * 17 + 17 ≤ b1.length * 17 + 17; omega) rfl (putL_snoc (z := zeS) (by rw [hclb]; omega) rfl) ?_)
          refine ⟨trivial, ?_⟩
          refine dC0 .nil rfl rfl rfl rfl (oStore (n := 1) (cs' := (fnD [102] (.slice p1 2) (.slice (some (idl, 0)) 2) (.slice (some (id4, 0)) (b1.length + 1)) [.int .i64 v1.kind, .int .i64 v1.n, .str v1.name, .int .i64 v1.op, .slice y1 v1.kids.length] ++ fnD [103] (.slice p2 1) (.slice l2 1) (.slice q2 b2.length) [.int .i64 v2.kind, .int .i64 v2.n, .str v2.name, .int .i64 v2.op, .slice y2 v2.kids.length])) rfl rfl rfl gG rfl (Nat.le_of_ble_eq_true rfl) rfl rfl ?_)
          refine ⟨trivial, ?_⟩
          refine dE0 ?_
          show TrP 159 _ _ _ _
          refine tH [(0, _), (1, _), (4, _), (5, _), (6, _), (7, _), (8, _), (17, _), (18, _), (31, _), (37, _), (56, _), (61, _), (70, _), (83, _)] ?_
          refine tR ?_
          refine sV rfl rfl rfl ?_
          exact ⟨prg la lb (fnF (b1 ++ [st6]) v1) (fnG b2 v2), _, _, hRd.c6, (hRd.low (nm := [102]) (nm2 := [103]) (ls := ijL) (x := [st6]) (by decide) (by decide) (by decide) (by have := hRd.hv1.ht4 (by omega); omega)), lprog (ida := ida) (idf := idf) gG gG ⟨p1, _, some (id4, 0), _, by simp [fnD, fnF], (hLd.keep (by repeat (first | assumption | exact Kp.refl | refine Kp.push ?_ | refine Kp.set ?_ lL (by first | (left; simp; done) | (right; first | omega | (simp only [Heap.n_push, Heap.n_set]; omega)))))).2.1, (hLd.keep (by repeat (first | assumption | exact Kp.refl | refine Kp.push ?_ | refine Kp.set ?_ lL (by first | (left; simp; done) | (right; first | omega | (simp only [Heap.n_push, Heap.n_set]; omega)))))).2.2.1, (rowA_snoc (x := st6) hclb gG (hLb.imp fun s _ => LM.kp (hLd.keep (by repeat (first | assumption | exact Kp.refl | refine Kp.push ?_ | refine Kp.set ?_ lL (by first | (left; simp; done) | (right; first | omega | (simp only [Heap.n_push, Heap.n_set]; omega)))))).2.2.2.2 s) (stL (pa := none) (pt := none) (pe := _) (zeXL _) (numCL _) RowQ.nil RowQ.nil (RowQ.one (T := 46) (k := 2) (c := stC 7 [] [] 0 zeX zeX (.slice none 0) (.slice none 0) (.slice none 0)) gG rfl (stL (pa := none) (pt := none) (pe := none) (zeXL _) (zeXL _) RowQ.nil RowQ.nil RowQ.nil)))), (hLd.keep (by repeat (first | assumption | exact Kp.refl | refine Kp.push ?_ | refine Kp.set ?_ lL (by first | (left; simp; done) | (right; first | omega | (simp only [Heap.n_push, Heap.n_set]; omega)))))).2.2.2.1⟩ (hLd.keep (by repeat (first | assumption | exact Kp.refl | refine Kp.push ?_ | refine Kp.set ?_ lL (by first | (left; simp; done) | (right; first | omega | (simp only [Heap.n_push, Heap.n_set]; omega)))))).1, gG, rfl, ⟨rfl, rfl, trivial⟩⟩
         ·
          refine dL rfl rfl rfl rfl (oV rfl ?_)
          refine dL rfl rfl rfl rfl (oV rfl ?_)
          refine dL rfl rfl rfl rfl (oW (at' (.ptr (some (_, _ + 3)))) rfl rfl ?_)
          refine dR0 rfl rfl rfl rfl (op_load_at (x := .at (.slice q1 b1.length)) rfl gG rfl) ?_
          refine dR0 rfl rfl rfl rfl (op_load_at (x := .agg [_, _, _, _, _]) rfl gG rfl) ?_
          refine dL rfl rfl rfl rfl (oW (.one (.agg [_, .str [], .str [], .int .i64 0, .int .i64 0, .int .i64 0, .str [], .int .i64 0, .slice none 0, .int .i64 0, .int .i64 0, .str [], .int .i64 0, .slice none 0, .slice none 0, .slice none 0, .slice none 0])) rfl rfl ?_)
          refine dM rfl rfl rfl rfl (obj := .cells 46 2 (stC 7 [] [] 0 zeX zeX (.slice none 0) (.slice none 0) (.slice none 0))) (v := at' (.slice (some (G.n + 2 + 0, 0)) 1)) rfl ?_
          refine dL rfl rfl rfl rfl (oW (.one (.agg [_, .str [], .str [], .int .i64 0, .int .i64 0, .int .i64 0, .str [], .int .i64 0, .slice none 0, _, _, _, _, _, .slice none 0, .slice none 0, _])) rfl rfl ?_)
          refine dRm _ rfl rfl rfl rfl rfl rfl ?_
          refine dM rfl rfl rfl rfl (obj := .cells 46 2 zeS) (v := at' (.slice (some (G.n + 2 + 1, 0)) 1)) rfl ?_
          refine dCm (Heap.set (Heap.set (Heap.push (Heap.push _ .dead) .dead) (G.n + 2 + 0) _) (G.n + 2 + 1) _) (.drop rfl (.drop rfl .nil)) (.drop rfl (.drop rfl (.drop rfl .nil))) rfl rfl rfl rfl rfl (oAppK (lo := 0) (n := b1.length) (m := 1) (cs := csb) (new := zeS) rfl rfl rfl rfl (hrab.kp (show Kp [] G _ from kZ)) rfl gG rfl rfl rfl rfl rfl rfl rfl hclb (by have := hRd.hl1; (show (b1.length + 1) * 248 ≤ _); omega) (by have := hRd.hl1; omega) (fun a4 H4 hr4 hk4 ⟨id4, ha4, hid4, hg4⟩ => ?_))
          subst ha4
          have hg4l := Heap.get_lt hg4
          (try simp only [Heap.n_push, Heap.n_set] at hid4)
          have hk4n := hk4.n
          (try simp only [Heap.n_push, Heap.n_set] at hk4n)
          rw [rid_slice] at hk4
          have hx : idf ∉ ridq q1 ∧ ida ∉ ridq q1 := objs_q hND
          have hqn : G.n ∉ ridq q1 := fun hm => by have := (hrb _ (by rw [rid_slice]; exact hm)).2; omega
          have hf4 : H4.get idf = some (.cells 28 2 (fnD [102] (.slice p1 2) (.slice (some (idl, 0)) 2) (.slice q1 b1.length) [.int .i64 v1.kind, .int .i64 v1.n, .str v1.name, .int .i64 v1.op, .slice y1 v1.kids.length] ++ fnD [103] (.slice p2 1) (.slice l2 1) (.slice q2 b2.length) [.int .i64 v2.kind, .int .i64 v2.n, .str v2.name, .int .i64 v2.op, .slice y2 v2.kids.length])) := hk4.g _ _ gG rfl hx.1
          have ha4 : H4.get ida = some (.cells 44 2 [.str [97], .int .i64 la, .str [98], .int .i64 lb]) := hk4.g _ _ gG rfl hx.2
          have hp4 : H4.get G.n = some (.cells 32 1 [.slice (some (ida, 0)) 2, .slice (some (idf, 0)) 2]) := hk4.g _ _ gG rfl hqn
          have K4 : Kp ([ida, idf] ++ ridq q1) G H4 := Kp.trans (show Kp ([ida, idf] ++ ridq q1) G _ from kZ) hk4 (fun d hd => .inl (List.mem_append_right _ hd))
          have hel4 : H4.get (G.n + 2 + 0) = some (.cells 46 2 (stC 7 [] [] 0 zeX zeX (.slice none 0) (.slice none 0) (.slice none 0))) := hk4.g _ _ gG rfl (fun hm => by have := (hrb _ (by rw [rid_slice]; exact hm)).2; omega)
          refine ⟨⟨.inl rfl, .inl rfl, .inl rfl, trivial⟩, ?_⟩
          refine dL rfl rfl rfl rfl (oIA (z := 17) (i := b1.length) (n := b1.length + 1) rfl rfl rfl rfl (by omega) ?_)
          refine dL rfl rfl rfl rfl (oV rfl ?_)
          refine dL rfl rfl rfl rfl (oW (at' (.ptr (some (_, _ + 3)))) rfl rfl ?_)
          refine dC0 .nil rfl rfl rfl rfl (oStore (n := 1) (cs' := (fnD [102] (.slice p1 2) (.slice (some (idl, 0)) 2) (.slice (some (id4, 0)) (b1.length + 1)) [.int .i64 v1.kind, .int .i64 v1.n, .str v1.name, .int .i64 v1.op, .slice y1 v1.kids.length] ++ fnD [103] (.slice p2 1) (.slice l2 1) (.slice q2 b2.length) [.int .i64 v2.kind, .int .i64 v2.n, .str v2.name, .int .i64 v2.op, .slice y2 v2.kids.length])) rfl rfl rfl gG rfl (Nat.le_of_ble_eq_true rfl) rfl rfl ?_)
          refine ⟨trivial, ?_⟩
          refine dC0 .nil rfl rfl rfl rfl (oStore (n := 17) (cs' := csb ++ (stC 4 [] [] 0 zeX [.int .i64 1, .int .i64 0, .str [], .int .i64 0, .slice none 0] (.slice none 0) (.slice none 0) (.slice (some (G.n + 2 + 0, 0)) 1))) rfl rfl rfl gG rfl (by rw [List.length_append, hclb]; show 0 + b1.length * 17 + 17 ≤ b1.length * 17 + 17; omega) rfl (putL_snoc (z := zeS) (by rw [hclb]; omega) rfl) ?_)
          refine ⟨trivial, ?_⟩
          refine dE0 ?_
          show TrP 159 _ _ _ _
          refine tH [(0, _), (1, _), (4, _), (5, _), (6, _), (7, _), (8, _), (17, _), (18, _), (31, _), (37, _), (56, _), (61, _), (70, _), (83, _)] ?_
          refine tR ?_
          refine sV rfl rfl rfl ?_
          exact ⟨prg la lb (fnF (b1 ++ [st6]) v1) (fnG b2 v2), _, _, hRd.c6, (hRd.low (nm := [102]) (nm2 := [103]) (ls := ijL) (x := [st6]) (by decide) (by decide) (by decide) (by have := hRd.hv1.ht4 (by omega); omega)), lprog (ida := ida) (idf := idf) gG gG ⟨p1, _, some (id4, 0), _, by simp [fnD, fnF], (hLd.keep (by repeat (first | assumption | exact Kp.refl | refine Kp.push ?_ | refine Kp.set ?_ lL (by first | (left; simp; done) | (right; first | omega | (simp only [Heap.n_push, Heap.n_set]; omega)))))).2.1, (hLd.keep (by repeat (first | assumption | exact Kp.refl | refine Kp.push ?_ | refine Kp.set ?_ lL (by first | (left; simp; done) | (right; first | omega | (simp only [Heap.n_push, Heap.n_set]; omega)))))).2.2.1, (rowA_snoc (x := st6) hclb gG (hLb.imp fun s _ => LM.kp (hLd.keep (by repeat (first | assumption | exact Kp.refl | refine Kp.push ?_ | refine Kp.set ?_ lL (by first | (left; simp; done) | (right; first | omega | (simp only [Heap.n_push, Heap.n_set]; omega)))))).2.2.2.2 s) (stL (pa := none) (pt := none) (pe := _) (zeXL _) (numCL _) RowQ.nil RowQ.nil (RowQ.one (T := 46) (k := 2) (c := stC 7 [] [] 0 zeX zeX (.slice none 0) (.slice none 0) (.slice none 0)) gG rfl (stL (pa := none) (pt := none) (pe := none) (zeXL _) (zeXL _) RowQ.nil RowQ.nil RowQ.nil)))), (hLd.keep (by repeat (first | assumption | exact Kp.refl | refine Kp.push ?_ | refine Kp.set ?_ lL (by first | (left; simp; done) | (right; first | omega | (simp only [Heap.n_push, Heap.n_set]; omega)))))).2.2.2.1⟩ (hLd.keep (by repeat (first | assumption | exact Kp.refl | refine Kp.push ?_ | refine Kp.set ?_ lL (by first | (left; simp; done) | (right; first | omega | (simp only [Heap.n_push, Heap.n_set]; omega)))))).1, gG, rfl, ⟨rfl, rfl, trivial⟩⟩
        ·
         refine sV rfl rfl rfl ?_
         show TrP 159 _ _ _ _
         refine tH [(0, _), (1, _), (4, _), (5, _), (6, _), (7, _), (8, _), (17, _), (18, _), (31, _), (37, _), (56, _), (61, _), (70, _), (83, _)] ?_
         refine tF rfl ?_
         refine Tri.seq ?_
         refine tR ?_
         refine sO rfl rfl (oE rfl (fun h100 => ?_) (fun h100 => ?_))
         ·
          refine sV rfl rfl rfl ?_
          show TrP 159 _ _ _ _
          refine tH [(0, _), (1, _), (4, _), (5, _), (6, _), (7, _), (8, _), (17, _), (18, _), (31, _), (37, _), (56, _), (61, _), (70, _), (83, _), (99, _)] ?_
          refine tT rfl ?_
          refine Tri.seq ?_
          refine tR ?_
          refine sO rfl rfl (oW (at' (.ptr (some (_, 1)))) rfl rfl ?_)
          refine sO rfl rfl (oLoad (x := .at _) rfl gG rfl ?_)
          refine sO rfl rfl (oIA (z := 9) (i := 1) rfl rfl rfl rfl (by omega) ?_)
          refine sO rfl rfl (oW (at' (.ptr (some (_, _ + 0)))) rfl rfl ?_)
          refine sO rfl rfl (oStore (n := 1) (cs' := (fnD [102] (.slice p1 2) (.slice (some (idl, 0)) 2) (.slice q1 b1.length) [.int .i64 v1.kind, .int .i64 v1.n, .str v1.name, .int .i64 v1.op, .slice y1 v1.kids.length] ++ fnD [102] (.slice p2 1) (.slice l2 1) (.slice q2 b2.length) [.int .i64 v2.kind, .int .i64 v2.n, .str v2.name, .int .i64 v2.op, .slice y2 v2.kids.length])) rfl rfl rfl gG rfl (Nat.le_of_ble_eq_true rfl) rfl rfl ?_)
          show TrP 159 _ _ _ _
          refine tH [(0, _), (1, _), (4, _), (5, _), (6, _), (7, _), (8, _), (17, _), (18, _), (31, _), (37, _), (56, _), (61, _), (70, _), (83, _), (99, _)] ?_
          refine tR ?_
          refine sV rfl rfl rfl ?_
          exact ⟨prg la lb (fnF b1 v1) ⟨[102], [[110]], [[105]], b2, v2⟩, _, _, hRd.c7, (hRd.low0 (nm := [102]) (ls := ijL) (nm2 := [102]) (by decide) (by have := hRd.hv1.ht4 (by omega); omega)), lprog (ida := ida) (idf := idf) gG gG ⟨p1, _, _, _, rfl, (hLd.keep (by repeat (first | assumption | exact Kp.refl | refine Kp.push ?_ | refine Kp.set ?_ lL (by first | (left; simp; done) | (right; first | omega | (simp only [Heap.n_push, Heap.n_set]; omega)))))).2.1, (hLd.keep (by repeat (first | assumption | exact Kp.refl | refine Kp.push ?_ | refine Kp.set ?_ lL (by first | (left; simp; done) | (right; first | omega | (simp only [Heap.n_push, Heap.n_set]; omega)))))).2.2.1, hLd.body (by repeat (first | assumption | exact Kp.refl | refine Kp.push ?_ | refine Kp.set ?_ lL (by first | (left; simp; done) | (right; first | omega | (simp only [Heap.n_push, Heap.n_set]; omega))))), (hLd.keep (by repeat (first | assumption | exact Kp.refl | refine Kp.push ?_ | refine Kp.set ?_ lL (by first | (left; simp; done) | (right; first | omega | (simp only [Heap.n_push, Heap.n_set]; omega)))))).2.2.2.1⟩ (lfn_name (hLd.keep (by repeat (first | assumption | exact Kp.refl | refine Kp.push ?_ | refine Kp.set ?_ lL (by first | (left; simp; done) | (right; first | omega | (simp only [Heap.n_push, Heap.n_set]; omega)))))).1), gG, rfl, ⟨rfl, rfl, trivial⟩⟩
         ·
          refine sV rfl rfl rfl ?_
          show TrP 159 _ _ _ _
          refine tH [(0, _), (1, _), (4, _), (5, _), (6, _), (7, _), (8, _), (17, _), (18, _), (31, _), (37, _), (56, _), (61, _), (70, _), (83, _), (99, _)] ?_
          refine tF rfl ?_
          refine Tri.seq ?_
          refine tR ?_
          refine sO rfl rfl (oE rfl (fun h106 => ?_) (fun h106 => ?_))
          ·
           refine sV rfl rfl rfl ?_
           show TrP 159 _ _ _ _
           refine tH [(0, _), (1, _), (4, _), (5, _), (6, _), (7, _), (8, _), (17, _), (18, _), (31, _), (37, _), (56, _), (61, _), (70, _), (83, _), (99, _), (105, _)] ?_
           refine tT rfl ?_
           refine Tri.seq ?_
           refine tR ?_
           refine sV rfl rfl rfl ?_
           refine sO rfl rfl (oV (v := at' (.slice (some (_, 0)) 3)) (H' := Heap.push _ (.cells 9 2 [.str [105], .str [106], .str [98]])) rfl ?_)
           refine sV rfl rfl rfl ?_
           refine sO rfl rfl (oW (at' (.ptr (some (_, _ + 2)))) rfl rfl ?_)
           refine sO rfl rfl (oStore (n := 1) (cs' := (fnD [102] (.slice p1 2) (.slice (some (_, 0)) 3) (.slice q1 b1.length) [.int .i64 v1.kind, .int .i64 v1.n, .str v1.name, .int .i64 v1.op, .slice y1 v1.kids.length] ++ fnD [103] (.slice p2 1) (.slice l2 1) (.slice q2 b2.length) [.int .i64 v2.kind, .int .i64 v2.n, .str v2.name, .int .i64 v2.op, .slice y2 v2.kids.length])) rfl rfl rfl gG rfl (Nat.le_of_ble_eq_true rfl) rfl rfl ?_)
           show TrP 159 _ _ _ _
           refine tH [(0, _), (1, _), (4, _), (5, _), (6, _), (7, _), (8, _), (17, _), (18, _), (31, _), (37, _), (56, _), (61, _), (70, _), (83, _), (99, _), (105, _)] ?_
           refine tR ?_
           refine sV rfl rfl rfl ?_
           exact ⟨prg la lb (mkF [102] [[105], [106], [98]] b1 v1) (fnG b2 v2), _, _, hRd.c8, (hRd.low0 (by decide) (by have := hRd.hv1.ht4 (by omega); omega)), lprog (ida := ida) (idf := idf) gG gG ⟨p1, _, _, _, rfl, (hLd.keep (by repeat (first | assumption | exact Kp.refl | refine Kp.push ?_ | refine Kp.set ?_ lL (by first | (left; simp; done) | (right; first | omega | (simp only [Heap.n_push, Heap.n_set]; omega)))))).2.1, (row_str [[105], [106], [98]] gG), hLd.body (by repeat (first | assumption | exact Kp.refl | refine Kp.push ?_ | refine Kp.set ?_ lL (by first | (left; simp; done) | (right; first | omega | (simp only [Heap.n_push, Heap.n_set]; omega))))), (hLd.keep (by repeat (first | assumption | exact Kp.refl | refine Kp.push ?_ | refine Kp.set ?_ lL (by first | (left; simp; done) | (right; first | omega | (simp only [Heap.n_push, Heap.n_set]; omega)))))).2.2.2.1⟩ (hLd.keep (by repeat (first | assumption | exact Kp.refl | refine Kp.push ?_ | refine Kp.set ?_ lL (by first | (left; simp; done) | (right; first | omega | (simp only [Heap.n_push, Heap.n_set]; omega)))))).1, gG, rfl, ⟨rfl, rfl, trivial⟩⟩
          ·
           refine sV rfl rfl rfl ?_
           show TrP 159 _ _ _ _
           refine tH [(0, _), (1, _), (4, _), (5, _), (6, _), (7, _), (8, _), (17, _), (18, _), (31, _), (37, _), (56, _), (61, _), (70, _), (83, _), (99, _), (105, _)] ?_
           refine tF rfl ?_
           refine Tri.seq ?_
           refine tR ?_
           refine sO rfl rfl (oE rfl (fun h112 => ?_) (fun h112 => ?_))
           ·
            refine sV rfl rfl rfl ?_
            show TrP 159 _ _ _ _
            refine tH [(0, _), (1, _), (4, _), (5, _), (6, _), (7, _), (8, _), (17, _), (18, _), (31, _), (37, _), (56, _), (61, _), (70, _), (83, _), (99, _), (105, _), (111, _)] ?_
            refine tT rfl ?_
            refine Tri.seq ?_
            refine drawnTwo1 mixed eqsOk (eqs := eqs) 11 14 (by decide) ⟨[0, 1, 3, 7, 0, 0, 48, 15, 0, 511, 1023, 2047, 1023, 5119, 16383], [0, 0, 0, 0, 0, 0, 0, 0, 0, 0, 0, 0, 0, 0, 0], 1, [0, 1, 2, 3, 4, 5, 6, 7, 8, 9, 10, 12, 13, 11, 14]⟩ ⟨[0, 1, 3, 7, 0, 0, 48, 15, 0, 511, 1023, 30719, 1023, 5119, 13311], [0, 0, 0, 0, 0, 0, 0, 0, 0, 0, 0, 0, 0, 0, 0], 1, [0, 1, 2, 3, 4, 5, 6, 7, 8, 9, 10, 12, 13, 14, 11]⟩ (by decide +kernel) (by decide +kernel) rfl rfl ?_ ?_
            ·
             refine dL rfl rfl rfl rfl (oV rfl ?_)
             refine dL rfl rfl rfl rfl (oV rfl ?_)
             refine dL rfl rfl rfl rfl (oW (at' (.ptr (some (_, _ + 3)))) rfl rfl ?_)
             refine dR0 rfl rfl rfl rfl (op_load_at (x := .at (.slice q1 b1.length)) rfl gG rfl) ?_
             refine dR0 rfl rfl rfl rfl (op_load_at (x := .agg [_, _, _, _, _]) rfl gG rfl) ?_
             refine dR0 rfl rfl rfl rfl (op_load_at (x := .agg [_, _, _, _, _]) rfl gG rfl) ?_
             refine dL rfl rfl rfl rfl (oW (.one (.agg [_, _, .str [], .int .i64 0, _, _, _, _, _, _, _, _, _, _, .slice none 0, .slice none 0, .slice none 0])) rfl rfl ?_)
             refine dR0 rfl rfl rfl rfl rfl ?_
             refine dM rfl rfl rfl rfl (obj := .cells 46 2 zeS) (v := at' (.slice (some (G.n + 2 + 0, 0)) 1)) rfl ?_
             refine dCm (Heap.set (Heap.push _ .dead) (G.n + 2 + 0) _) (.drop rfl .nil) (.drop rfl (.drop rfl (.drop rfl (.drop rfl .nil)))) rfl rfl rfl rfl rfl (oAppK (lo := 0) (n := b1.length) (m := 1) (cs := csb) (new := zeS) rfl rfl rfl rfl (hrab.kp (show Kp [] G _ from kZ)) rfl gG rfl rfl rfl rfl rfl rfl rfl hclb (by have := hRd.hl1; (show (b1.length + 1) * 248 ≤ _); omega) (by have := hRd.hl1; omega) (fun a4 H4 hr4 hk4 ⟨id4, ha4, hid4, hg4⟩ => ?_))
             subst ha4
             have hg4l := Heap.get_lt hg4
             (try simp only [Heap.n_push, Heap.n_set] at hid4)
             have hk4n := hk4.n
             (try simp only [Heap.n_push, Heap.n_set] at hk4n)
             rw [rid_slice] at hk4
             have hx : idf ∉ ridq q1 ∧ ida ∉ ridq q1 := objs_q hND
             have hqn : G.n ∉ ridq q1 := fun hm => by have := (hrb _ (by rw [rid_slice]; exact hm)).2; omega
             have hf4 : H4.get idf = some (.cells 28 2 (fnD [102] (.slice p1 2) (.slice (some (idl, 0)) 2) (.slice q1 b1.length) [.int .i64 v1.kind, .int .i64 v1.n, .str v1.name, .int .i64 v1.op, .slice y1 v1.kids.length] ++ fnD [103] (.slice p2 1) (.slice l2 1) (.slice q2 b2.length) [.int .i64 v2.kind, .int .i64 v2.n, .str v2.name, .int .i64 v2.op, .slice y2 v2.kids.length])) := hk4.g _ _ gG rfl hx.1
             have ha4 : H4.get ida = some (.cells 44 2 [.str [97], .int .i64 la, .str [98], .int .i64 lb]) := hk4.g _ _ gG rfl hx.2
             have hp4 : H4.get G.n = some (.cells 32 1 [.slice (some (ida, 0)) 2, .slice (some (idf, 0)) 2]) := hk4.g _ _ gG rfl hqn
             have K4 : Kp ([ida, idf] ++ ridq q1) G H4 := Kp.trans (show Kp ([ida, idf] ++ ridq q1) G _ from kZ) hk4 (fun d hd => .inl (List.mem_append_right _ hd))
             refine ⟨⟨.inl rfl, .inl rfl, .inl rfl, .inl rfl, trivial⟩, ?_⟩
             refine dL rfl rfl rfl rfl (oIA (z := 17) (i := b1.length) (n := b1.length + 1) rfl rfl rfl rfl (by omega) ?_)
             refine dL rfl rfl rfl rfl (oV rfl ?_)
             refine dL rfl rfl rfl rfl (oW (at' (.ptr (some (_, _ + 3)))) rfl rfl ?_)
             refine dC0 .nil rfl rfl rfl rfl (oStore (n := 17) (cs' := csb ++ (stC 2 [120] [] 0 [.int .i64 1, .int .i64 0, .str [], .int .i64 0, .slice none 0] [.int .i64 1, .int .i64 0, .str [], .int .i64 0, .slice none 0] (.slice none 0) (.slice none 0) (.slice none 0))) rfl rfl rfl gG rfl (by rw [List.length_append, hclb]; show 0 + b1.length * 17 + 17 ≤ b1.length * 17 + 17; omega) rfl (putL_snoc (z := zeS) (by rw [hclb]; omega) rfl) ?_)
             refine ⟨trivial, ?_⟩
             refine dC0 .nil rfl rfl rfl rfl (oStore (n := 1) (cs' := (fnD [102] (.slice p1 2) (.slice (some (idl, 0)) 2) (.slice (some (id4, 0)) (b1.length + 1)) [.int .i64 v1.kind, .int .i64 v1.n, .str v1.name, .int .i64 v1.op, .slice y1 v1.kids.length] ++ fnD [103] (.slice p2 1) (.slice l2 1) (.slice q2 b2.length) [.int .i64 v2.kind, .int .i64 v2.n, .str v2.name, .int .i64 v2.op, .slice y2 v2.kids.length])) rfl rfl rfl gG rfl (Nat.le_of_ble_eq_true rfl) rfl rfl ?_)
             refine ⟨trivial, ?_⟩
             refine dE0 ?_
             show TrP 159 _ _ _ _
             refine tH [(0, _), (1, _), (4, _), (5, _), (6, _), (7, _), (8, _), (17, _), (18, _), (31, _), (37, _), (56, _), (61, _), (70, _), (83, _), (99, _), (105, _), (111, _)] ?_
             refine tR ?_
             refine sV rfl rfl rfl ?_
             exact ⟨prg la lb (fnF (b1 ++ [st9]) v1) (fnG b2 v2), _, _, hRd.c9, (hRd.low (nm := [102]) (nm2 := [103]) (ls := ijL) (x := [st9]) (by decide) (by decide) (by decide) (by have := hRd.hv1.ht4 (by omega); omega)), lprog (ida := ida) (idf := idf) gG gG ⟨p1, _, some (id4, 0), _, by simp [fnD, fnF], (hLd.keep (by repeat (first | assumption | exact Kp.refl | refine Kp.push ?_ | refine Kp.set ?_ lL (by first | (left; simp; done) | (right; first | omega | (simp only [Heap.n_push, Heap.n_set]; omega)))))).2.1, (hLd.keep (by repeat (first | assumption | exact Kp.refl | refine Kp.push ?_ | refine Kp.set ?_ lL (by first | (left; simp; done) | (right; first | omega | (simp only [Heap.n_push, Heap.n_set]; omega)))))).2.2.1, (rowA_snoc (x := st9) hclb gG (hLb.imp fun s _ => LM.kp (hLd.keep (by repeat (first | assumption | exact Kp.refl | refine Kp.push ?_ | refine Kp.set ?_ lL (by first | (left; simp; done) | (right; first | omega | (simp only [Heap.n_push, Heap.n_set]; omega)))))).2.2.2.2 s) (stL (pa := none) (pt := none) (pe := none) (numCL _) (numCL _) RowQ.nil RowQ.nil RowQ.nil)), (hLd.keep (by repeat (first | assumption | exact Kp.refl | refine Kp.push ?_ | refine Kp.set ?_ lL (by first | (left; simp; done) | (right; first | omega | (simp only [Heap.n_push, Heap.n_set]; omega)))))).2.2.2.1⟩ (hLd.keep (by repeat (first | assumption | exact Kp.refl | refine Kp.push ?_ | refine Kp.set ?_ lL (by first | (left; simp; done) | (right; first | omega | (simp only [Heap.n_push, Heap.n_set]; omega)))))).1, gG, rfl, ⟨rfl, rfl, trivial⟩⟩
            ·
             refine dL rfl rfl rfl rfl (oV rfl ?_)
             refine dL rfl rfl rfl rfl (oV rfl ?_)
             refine dL rfl rfl rfl rfl (oW (at' (.ptr (some (_, _ + 3)))) rfl rfl ?_)
             refine dR0 rfl rfl rfl rfl (op_load_at (x := .at (.slice q1 b1.length)) rfl gG rfl) ?_
             refine dR0 rfl rfl rfl rfl (op_load_at (x := .agg [_, _, _, _, _]) rfl gG rfl) ?_
             refine dR0 rfl rfl rfl rfl (op_load_at (x := .agg [_, _, _, _, _]) rfl gG rfl) ?_
             refine dL rfl rfl rfl rfl (oW (.one (.agg [_, _, .str [], .int .i64 0, _, _, _, _, _, _, _, _, _, _, .slice none 0, .slice none 0, .slice none 0])) rfl rfl ?_)
             refine dR0 rfl rfl rfl rfl rfl ?_
             refine dM rfl rfl rfl rfl (obj := .cells 46 2 zeS) (v := at' (.slice (some (G.n + 2 + 0, 0)) 1)) rfl ?_
             refine dCm (Heap.set (Heap.push _ .dead) (G.n + 2 + 0) _) (.drop rfl .nil) (.drop rfl (.drop rfl (.drop rfl (.drop rfl .nil)))) rfl rfl rfl rfl rfl (oAppK (lo := 0) (n := b1.length) (m := 1) (cs := csb) (new := zeS) rfl rfl rfl rfl (hrab.kp (show Kp [] G _ from kZ)) rfl gG rfl rfl rfl rfl rfl rfl rfl hclb (by have := hRd.hl1; (show (b1.length + 1) * 248 ≤ _); omega) (by have := hRd.hl1; omega) (fun a4 H4 hr4 hk4 ⟨id4, ha4, hid4, hg4⟩ => ?_))
             subst ha4
             have hg4l := Heap.get_lt hg4
             (try simp only [Heap.n_push, Heap.n_set] at hid4)
             have hk4n := hk4.n
             (try simp only [Heap.n_push, Heap.n_set] at hk4n)
             rw [rid_slice] at hk4
             have hx : idf ∉ ridq q1 ∧ ida ∉ ridq q1 := objs_q hND
             have hqn : G.n ∉ ridq q1 := fun hm => by have := (hrb _ (by rw [rid_slice]; exact hm)).2; omega
             have hf4 : H4.get idf = some (.cells 28 2 (fnD [102] (.slice p1 2) (.slice (some (idl, 0)) 2) (.slice q1 b1.length) [.int .i64 v1.kind, .int .i64 v1.n, .str v1.name, .int .i64 v1.op, .slice y1 v1.kids.length] ++ fnD [103] (.slice p2 1) (.slice l2 1) (.slice q2 b2.length) [.int .i64 v2.kind, .int .i64 v2.n, .str v2.name, .int .i64 v2.op, .slice y2 v2.kids.length])) := hk4.g _ _ gG rfl hx.1
             have ha4 : H4.get ida = some (.cells 44 2 [.str [97], .int .i64 la, .str [98], .int .i64 lb]) := hk4.g _ _ gG rfl hx.2
             have hp4 : H4.get G.n = some (.cells 32 1 [.slice (some (ida, 0)) 2, .slice (some (idf, 0)) 2]) := hk4.g _ _ gG rfl hqn
             have K4 : Kp ([ida, idf] ++ ridq q1) G H4 := Kp.trans (show Kp ([ida, idf] ++ ridq q1) G _ from kZ) hk4 (fun d hd => .inl (List.mem_append_right _ hd))
             refine ⟨⟨.inl rfl, .inl rfl, .inl rfl, .inl rfl, trivial⟩, ?_⟩
             refine dL rfl rfl rfl rfl (oIA (z := 17) (i := b1.length) (n := b1.length + 1) rfl rfl rfl rfl (by omega) ?_)
             refine dL rfl rfl rfl rfl (oV rfl ?_)
             refine dL rfl rfl rfl rfl (oW (at' (.ptr (some (_, _ + 3)))) rfl rfl ?_)
             refine dC0 .nil rfl rfl rfl rfl (oStore (n := 1) (cs' := (fnD [102] (.slice p1 2) (.slice (some (idl, 0)) 2) (.slice (some (id4, 0)) (b1.length + 1)) [.int .i64 v1.kind, .int .i64 v1.n, .str v1.name, .int .i64 v1.op, .slice y1 v1.kids.length] ++ fnD [103] (.slice p2 1) (.slice l2 1) (.slice q2 b2.length) [.int .i64 v2.kind, .int .i64 v2.n, .str v2.name, .int .i64 v2.op, .slice y2 v2.kids.length])) rfl rfl rfl gG rfl (Nat.le_of_ble_eq_true rfl) rfl rfl ?_)
             refine ⟨trivial, ?_⟩
             refine dC0 .nil rfl rfl rfl rfl (oStore (n := 17) (cs' := csb ++ (stC 2 [120] [] 0 [.int .i64 1, .int .i64 0, .str [], .int .i64 0, .slice none 0] [.int .i64 1, .int .i64 0, .str [], .int .i64 0, .slice none 0] (.slice none 0) (.slice none 0) (.slice none 0))) rfl rfl rfl gG rfl (by rw [List.length_append, hclb]; show 0 + b1.length * 17 + 17 ≤ b1.length * 17 + 17; omega) rfl (putL_snoc (z := zeS) (by rw [hclb]; omega) rfl) ?_)
             refine ⟨trivial, ?_⟩
             refine dE0 ?_
             show TrP 159 _ _ _ _
             refine tH [(0, _), (1, _), (4, _), (5, _), (6, _), (7, _), (8, _), (17, _), (18, _), (31, _), (37, _), (56, _), (61, _), (70, _), (83, _), (99, _), (105, _), (111, _)] ?_
             refine tR ?_
             refine sV rfl rfl rfl ?_
             exact ⟨prg la lb (fnF (b1 ++ [st9]) v1) (fnG b2 v2), _, _, hRd.c9, (hRd.low (nm := [102]) (nm2 := [103]) (ls := ijL) (x := [st9]) (by decide) (by decide) (by decide) (by have := hRd.hv1.ht4 (by omega); omega)), lprog (ida := ida) (idf := idf) gG gG ⟨p1, _, some (id4, 0), _, by simp [fnD, fnF], (hLd.keep (by repeat (first | assumption | exact Kp.refl | refine Kp.push ?_ | refine Kp.set ?_ lL (by first | (left; simp; done) | (right; first | omega | (simp only [Heap.n_push, Heap.n_set]; omega)))))).2.1, (hLd.keep (by repeat (first | assumption | exact Kp.refl | refine Kp.push ?_ | refine Kp.set ?_ lL (by first | (left; simp; done) | (right; first | omega | (simp only [Heap.n_push, Heap.n_set]; omega)))))).2.2.1, (rowA_snoc (x := st9) hclb gG (hLb.imp fun s _ => LM.kp (hLd.keep (by repeat (first | assumption | exact Kp.refl | refine Kp.push ?_ | refine Kp.set ?_ lL (by first | (left; simp; done) | (right; first | omega | (simp only [Heap.n_push, Heap.n_set]; omega)))))).2.2.2.2 s) (stL (pa := none) (pt := none) (pe := none) (numCL _) (numCL _) RowQ.nil RowQ.nil RowQ.nil)), (hLd.keep (by repeat (first | assumption | exact Kp.refl | refine Kp.push ?_ | refine Kp.set ?_ lL (by first | (left; simp; done) | (right; first | omega | (simp only [Heap.n_push, Heap.n_set]; omega)))))).2.2.2.1⟩ (hLd.keep (by repeat (first | assumption | exact Kp.refl | refine Kp.push ?_ | refine Kp.set ?_ lL (by first | (left; simp; done) | (right; first | omega | (simp only [Heap.n_push, Heap.n_set]; omega)))))).1, gG, rfl, ⟨rfl, rfl, trivial⟩⟩
           ·
            refine sV rfl rfl rfl ?_
            show TrP 159 _ _ _ _
            refine tH [(0, _), (1, _), (4, _), (5, _), (6, _), (7, _), (8, _), (17, _), (18, _), (31, _), (37, _), (56, _), (61, _), (70, _), (83, _), (99, _), (105, _), (111, _)] ?_
            refine tF rfl ?_
            refine Tri.seq ?_
            refine tR ?_
            refine sO rfl rfl (oE rfl (fun h127 => ?_) (fun h127 => ?_))
            ·
             refine sV rfl rfl rfl ?_
             show TrP 159 _ _ _ _
             refine tH [(0, _), (1, _), (4, _), (5, _), (6, _), (7, _), (8, _), (17, _), (18, _), (31, _), (37, _), (56, _), (61, _), (70, _), (83, _), (99, _), (105, _), (111, _), (126, _)] ?_
             refine tT rfl ?_
             refine Tri.seq ?_
             refine drawnTwo1 mixed eqsOk (eqs := eqs) 9 12 (by decide) ⟨[0, 1, 3, 7, 0, 15, 0, 127, 255, 511, 255, 1279, 4095], [0, 0, 0, 0, 0, 0, 0, 0, 0, 0, 0, 0, 0], 1, [0, 1, 2, 3, 4, 5, 6, 7, 8, 10, 11, 9, 12]⟩ ⟨[0, 1, 3, 7, 0, 15, 0, 127, 255, 7679, 255, 1279, 3327], [0, 0, 0, 0, 0, 0, 0, 0, 0, 0, 0, 0, 0], 1, [0, 1, 2, 3, 4, 5, 6, 7, 8, 10, 11, 12, 9]⟩ (by decide +kernel) (by decide +kernel) rfl rfl ?_ ?_
             ·
              refine dL rfl rfl rfl rfl (oV rfl ?_)
              refine dL rfl rfl rfl rfl (oV rfl ?_)
              refine dL rfl rfl rfl rfl (oW (at' (.ptr (some (_, _ + 3)))) rfl rfl ?_)
              refine dR0 rfl rfl rfl rfl (op_load_at (x := .at (.slice q1 b1.length)) rfl gG rfl) ?_
              refine dL rfl rfl rfl rfl (oW (.one (.agg [_, _, _, .int .i64 0, .int .i64 0, .int .i64 0, .str [], .int .i64 0, .slice none 0, .int .i64 0, .int .i64 0, .str [], .int .i64 0, .slice none 0, .slice none 0, .slice none 0, .slice none 0])) rfl rfl ?_)
              refine dR0 rfl rfl rfl rfl rfl ?_
              refine dM rfl rfl rfl rfl (obj := .cells 46 2 zeS) (v := at' (.slice (some (G.n + 2 + 0, 0)) 1)) rfl ?_
              refine dCm (Heap.set (Heap.push _ .dead) (G.n + 2 + 0) _) (.drop rfl .nil) (.drop rfl (.drop rfl .nil)) rfl rfl rfl rfl rfl (oAppK (lo := 0) (n := b1.length) (m := 1) (cs := csb) (new := zeS) rfl rfl rfl rfl (hrab.kp (show Kp [] G _ from kZ)) rfl gG rfl rfl rfl rfl rfl rfl rfl hclb (by have := hRd.hl1; (show (b1.length + 1) * 248 ≤ _); omega) (by have := hRd.hl1; omega) (fun a4 H4 hr4 hk4 ⟨id4, ha4, hid4, hg4⟩ => ?_))
              subst ha4
              have hg4l := Heap.get_lt hg4
              (try simp only [Heap.n_push, Heap.n_set] at hid4)
              have hk4n := hk4.n
              (try simp only [Heap.n_push, Heap.n_set] at hk4n)
              rw [rid_slice] at hk4
              have hx : idf ∉ ridq q1 ∧ ida ∉ ridq q1 := objs_q hND
              have hqn : G.n ∉ ridq q1 := fun hm => by have := (hrb _ (by rw [rid_slice]; exact hm)).2; omega
              have hf4 : H4.get idf = some (.cells 28 2 (fnD [102] (.slice p1 2) (.slice (some (idl, 0)) 2) (.slice q1 b1.length) [.int .i64 v1.kind, .int .i64 v1.n, .str v1.name, .int .i64 v1.op, .slice y1 v1.kids.length] ++ fnD [103] (.slice p2 1) (.slice l2 1) (.slice q2 b2.length) [.int .i64 v2.kind, .int .i64 v2.n, .str v2.name, .int .i64 v2.op, .slice y2 v2.kids.length])) := hk4.g _ _ gG rfl hx.1
              have ha4 : H4.get ida = some (.cells 44 2 [.str [97], .int .i64 la, .str [98], .int .i64 lb]) := hk4.g _ _ gG rfl hx.2
              have hp4 : H4.get G.n = some (.cells 32 1 [.slice (some (ida, 0)) 2, .slice (some (idf, 0)) 2]) := hk4.g _ _ gG rfl hqn
              have K4 : Kp ([ida, idf] ++ ridq q1) G H4 := Kp.trans (show Kp ([ida, idf] ++ ridq q1) G _ from kZ) hk4 (fun d hd => .inl (List.mem_append_right _ hd))
              refine ⟨⟨.inl rfl, .inl rfl, trivial⟩, ?_⟩
              refine dL rfl rfl rfl rfl (oIA (z := 17) (i := b1.length) (n := b1.length + 1) rfl rfl rfl rfl (by omega) ?_)
              refine dL rfl rfl rfl rfl (oV rfl ?_)
              refine dL rfl rfl rfl rfl (oW (at' (.ptr (some (_, _ + 3)))) rfl rfl ?_)
              refine dC0 .nil rfl rfl rfl rfl (oStore (n := 17) (cs' := csb ++ (stC 6 [120] [104] 0 zeX zeX (.slice none 0) (.slice none 0) (.slice none 0))) rfl rfl rfl gG rfl (by rw [List.length_append, hclb]; show 0 + b1.length * 17 + 17 ≤ b1.length * 17 + 17; omega) rfl (putL_snoc (z := zeS) (by rw [hclb]; omega) rfl) ?_)
              refine ⟨trivial, ?_⟩
              refine dC0 .nil rfl rfl rfl rfl (oStore (n := 1) (cs' := (fnD [102] (.slice p1 2) (.slice (some (idl, 0)) 2) (.slice (some (id4, 0)) (b1.length + 1)) [.int .i64 v1.kind, .int .i64 v1.n, .str v1.name, .int .i64 v1.op, .slice y1 v1.kids.length] ++ fnD [103] (.slice p2 1) (.slice l2 1) (.slice q2 b2.length) [.int .i64 v2.kind, .int .i64 v2.n, .str v2.name, .int .i64 v2.op, .slice y2 v2.kids.length])) rfl rfl rfl gG rfl (Nat.le_of_ble_eq_true rfl) rfl rfl ?_)
              refine ⟨trivial, ?_⟩
              refine dE0 ?_
              show TrP 159 _ _ _ _
              refine tH [(0, _), (1, _), (4, _), (5, _), (6, _), (7, _), (8, _), (17, _), (18, _), (31, _), (37, _), (56, _), (61, _), (70, _), (83, _), (99, _), (105, _), (111, _), (126, _)] ?_
              refine tR ?_
              refine sV rfl rfl rfl ?_
              exact ⟨prg la lb (fnF (b1 ++ [st10]) v1) (fnG b2 v2), _, _, hRd.c10, (hRd.low (nm := [102]) (nm2 := [103]) (ls := ijL) (x := [st10]) (by decide) (by decide) (by decide) (by have := hRd.hv1.ht4 (by omega); omega)), lprog (ida := ida) (idf := idf) gG gG ⟨p1, _, some (id4, 0), _, by simp [fnD, fnF], (hLd.keep (by repeat (first | assumption | exact Kp.refl | refine Kp.push ?_ | refine Kp.set ?_ lL (by first | (left; simp; done) | (right; first | omega | (simp only [Heap.n_push, Heap.n_set]; omega)))))).2.1, (hLd.keep (by repeat (first | assumption | exact Kp.refl | refine Kp.push ?_ | refine Kp.set ?_ lL (by first | (left; simp; done) | (right; first | omega | (simp only [Heap.n_push, Heap.n_set]; omega)))))).2.2.1, (rowA_snoc (x := st10) hclb gG (hLb.imp fun s _ => LM.kp (hLd.keep (by repeat (first | assumption | exact Kp.refl | refine Kp.push ?_ | refine Kp.set ?_ lL (by first | (left; simp; done) | (right; first | omega | (simp only [Heap.n_push, Heap.n_set]; omega)))))).2.2.2.2 s) (stL (pa := none) (pt := none) (pe := none) (zeXL _) (zeXL _) RowQ.nil RowQ.nil RowQ.nil)), (hLd.keep (by repeat (first | assumption | exact Kp.refl | refine Kp.push ?_ | refine Kp.set ?_ lL (by first | (left; simp; done) | (right; first | omega | (simp only [Heap.n_push, Heap.n_set]; omega)))))).2.2.2.1⟩ (hLd.keep (by repeat (first | assumption | exact Kp.refl | refine Kp.push ?_ | refine Kp.set ?_ lL (by first | (left; simp; done) | (right; first | omega | (simp only [Heap.n_push, Heap.n_set]; omega)))))).1, gG, rfl, ⟨rfl, rfl, trivial⟩⟩
             ·
              refine dL rfl rfl rfl rfl (oV rfl ?_)
              refine dL rfl rfl rfl rfl (oV rfl ?_)
              refine dL rfl rfl rfl rfl (oW (at' (.ptr (some (_, _ + 3)))) rfl rfl ?_)
              refine dR0 rfl rfl rfl rfl (op_load_at (x := .at (.slice q1 b1.length)) rfl gG rfl) ?_
              refine dL rfl rfl rfl rfl (oW (.one (.agg [_, _, _, .int .i64 0, .int .i64 0, .int .i64 0, .str [], .int .i64 0, .slice none 0, .int .i64 0, .int .i64 0, .str [], .int .i64 0, .slice none 0, .slice none 0, .slice none 0, .slice none 0])) rfl rfl ?_)
              refine dR0 rfl rfl rfl rfl rfl ?_
              refine dM rfl rfl rfl rfl (obj := .cells 46 2 zeS) (v := at' (.slice (some (G.n + 2 + 0, 0)) 1)) rfl ?_
              refine dCm (Heap.set (Heap.push _ .dead) (G.n + 2 + 0) _) (.drop rfl .nil) (.drop rfl (.drop rfl .nil)) rfl rfl rfl rfl rfl (oAppK (lo := 0) (n := b1.length) (m := 1) (cs := csb) (new := zeS) rfl rfl rfl rfl (hrab.kp (show Kp [] G _ from kZ)) rfl gG rfl rfl rfl rfl rfl rfl rfl hclb (by have := hRd.hl1; (show (b1.length + 1) * 248 ≤ _); omega) (by have := hRd.hl1; omega) (fun a4 H4 hr4 hk4 ⟨id4, ha4, hid4, hg4⟩ => ?_))
              subst ha4
              have hg4l := Heap.get_lt hg4
              (try simp only [Heap.n_push, Heap.n_set] at hid4)
              have hk4n := hk4.n
              (try simp only [Heap.n_push, Heap.n_set] at hk4n)
              rw [rid_slice] at hk4
              have hx : idf ∉ ridq q1 ∧ ida ∉ ridq q1 := objs_q hND
              have hqn : G.n ∉ ridq q1 := fun hm => by have := (hrb _ (by rw [rid_slice]; exact hm)).2; omega
              have hf4 : H4.get idf = some (.cells 28 2 (fnD [102] (.slice p1 2) (.slice (some (idl, 0)) 2) (.slice q1 b1.length) [.int .i64 v1.kind, .int .i64 v1.n, .str v1.name, .int .i64 v1.op, .slice y1 v1.kids.length] ++ fnD [103] (.slice p2 1) (.slice l2 1) (.slice q2 b2.length) [.int .i64 v2.kind, .int .i64 v2.n, .str v2.name, .int .i64 v2.op, .slice y2 v2.kids.length])) := hk4.g _ _ gG rfl hx.1
              have ha4 : H4.get ida = some (.cells 44 2 [.str [97], .int .i64 la, .str [98], .int .i64 lb]) := hk4.g _ _ gG rfl hx.2
              have hp4 : H4.get G.n = some (.cells 32 1 [.slice (some (ida, 0)) 2, .slice (some (idf, 0)) 2]) := hk4.g _ _ gG rfl hqn
              have K4 : Kp ([ida, idf] ++ ridq q1) G H4 := Kp.trans (show Kp ([ida, idf] ++ ridq q1) G _ from kZ) hk4 (fun d hd => .inl (List.mem_append_right _ hd))
              refine ⟨⟨.inl rfl, .inl rfl, trivial⟩, ?_⟩
              refine dL rfl rfl rfl rfl (oIA (z := 17) (i := b1.length) (n := b1.length + 1) rfl rfl rfl rfl (by omega) ?_)
              refine dL rfl rfl rfl rfl (oV rfl ?_)
              refine dL rfl rfl rfl rfl (oW (at' (.ptr (some (_, _ + 3)))) rfl rfl ?_)
              refine dC0 .nil rfl rfl rfl rfl (oStore (n := 1) (cs' := (fnD [102] (.slice p1 2) (.slice (some (idl, 0)) 2) (.slice (some (id4, 0)) (b1.length + 1)) [.int .i64 v1.kind, .int .i64 v1.n, .str v1.name, .int .i64 v1.op, .slice y1 v1.kids.length] ++ fnD [103] (.slice p2 1) (.slice l2 1) (.slice q2 b2.length) [.int .i64 v2.kind, .int .i64 v2.n, .str v2.name, .int .i64 v2.op, .slice y2 v2.kids.length])) rfl rfl rfl gG rfl (Nat.le_of_ble_eq_true rfl) rfl rfl ?_)
              refine ⟨trivial, ?_⟩
              refine dC0 .nil rfl rfl rfl rfl (oStore (n := 17) (cs' := csb ++ (stC 6 [120] [104] 0 zeX zeX (.slice none 0) (.slice none 0) (.slice none 0))) rfl rfl rfl gG rfl (by rw [List.length_append, hclb]; show 0 + b1.length * 17 + 17 ≤ b1.length * 17 + 17; omega) rfl (putL_snoc (z := zeS) (by rw [hclb]; omega) rfl) ?_)
              refine ⟨trivial, ?_⟩
              refine dE0 ?_
              show TrP 159 _ _ _ _
              refine tH [(0, _), (1, _), (4, _), (5, _), (6, _), (7, _), (8, _), (17, _), (18, _), (31, _), (37, _), (56, _), (61, _), (70, _), (83, _), (99, _), (105, _), (111, _), (126, _)] ?_
              refine tR ?_
              refine sV rfl rfl rfl ?_
              exact ⟨prg la lb (fnF (b1 ++ [st10]) v1) (fnG b2 v2), _, _, hRd.c10, (hRd.low (nm := [102]) (nm2 := [103]) (ls := ijL) (x := [st10]) (by decide) (by decide) (by decide) (by have := hRd.hv1.ht4 (by omega); omega)), lprog (ida := ida) (idf := idf) gG gG ⟨p1, _, some (id4, 0), _, by simp [fnD, fnF], (hLd.keep (by repeat (first | assumption | exact Kp.refl | refine Kp.push ?_ | refine Kp.set ?_ lL (by first | (left; simp; done) | (right; first | omega | (simp only [Heap.n_push, Heap.n_set]; omega)))))).2.1, (hLd.keep (by repeat (first | assumption | exact Kp.refl | refine Kp.push ?_ | refine Kp.set ?_ lL (by first | (left; simp; done) | (right; first | omega | (simp only [Heap.n_push, Heap.n_set]; omega)))))).2.2.1, (rowA_snoc (x := st10) hclb gG (hLb.imp fun s _ => LM.kp (hLd.keep (by repeat (first | assumption | exact Kp.refl | refine Kp.push ?_ | refine Kp.set ?_ lL (by first | (left; simp; done) | (right; first | omega | (simp only [Heap.n_push, Heap.n_set]; omega)))))).2.2.2.2 s) (stL (pa := none) (pt := none) (pe := none) (zeXL _) (zeXL _) RowQ.nil RowQ.nil RowQ.nil)), (hLd.keep (by repeat (first | assumption | exact Kp.refl | refine Kp.push ?_ | refine Kp.set ?_ lL (by first | (left; simp; done) | (right; first | omega | (simp only [Heap.n_push, Heap.n_set]; omega)))))).2.2.2.1⟩ (hLd.keep (by repeat (first | assumption | exact Kp.refl | refine Kp.push ?_ | refine Kp.set ?_ lL (by first | (left; simp; done) | (right; first | omega | (simp only [Heap.n_push, Heap.n_set]; omega)))))).1, gG, rfl, ⟨rfl, rfl, trivial⟩⟩
            ·
             refine sV rfl rfl rfl ?_
             show TrP 159 _ _ _ _
             refine tH [(0, _), (1, _), (4, _), (5, _), (6, _), (7, _), (8, _), (17, _), (18, _), (31, _), (37, _), (56, _), (61, _), (70, _), (83, _), (99, _), (105, _), (111, _), (126, _)] ?_
             refine tF rfl ?_
             refine Tri.seq ?_
             refine tR ?_
             refine sO rfl rfl (oE rfl (fun h140 => ?_) (fun h140 => ?_))
             ·
              refine sV rfl rfl rfl ?_
              show TrP 159 _ _ _ _
              refine tH [(0, _), (1, _), (4, _), (5, _), (6, _), (7, _), (8, _), (17, _), (18, _), (31, _), (37, _), (56, _), (61, _), (70, _), (83, _), (99, _), (105, _), (111, _), (126, _), (139, _)] ?_
              refine tT rfl ?_
              refine Tri.seq ?_
              refine drawnTwo1 mixed eqsOk (eqs := eqs) 9 12 (by decide) ⟨[0, 1, 3, 7, 0, 15, 0, 127, 255, 511, 255, 1279, 4095], [0, 0, 0, 0, 0, 0, 0, 0, 0, 0, 0, 0, 0], 1, [0, 1, 2, 3, 4, 5, 6, 7, 8, 10, 11, 9, 12]⟩ ⟨[0, 1, 3, 7, 0, 15, 0, 127, 255, 7679, 255, 1279, 3327], [0, 0, 0, 0, 0, 0, 0, 0, 0, 0, 0, 0, 0], 1, [0, 1, 2, 3, 4, 5, 6, 7, 8, 10, 11, 12, 9]⟩ (by decide +kernel) (by decide +kernel) rfl rfl ?_ ?_
              ·
               refine dL rfl rfl rfl rfl (oV rfl ?_)
               refine dL rfl rfl rfl rfl (oV rfl ?_)
               refine dL rfl rfl rfl rfl (oW (at' (.ptr (some (_, _ + 3)))) rfl rfl ?_)
               refine dR0 rfl rfl rfl rfl (op_load_at (x := .at (.slice q1 b1.length)) rfl gG rfl) ?_
               refine dL rfl rfl rfl rfl (oW (.one (.agg [_, _, _, .int .i64 0, .int .i64 0, .int .i64 0, .str [], .int .i64 0, .slice none 0, .int .i64 0, .int .i64 0, .str [], .int .i64 0, .slice none 0, .slice none 0, .slice none 0, .slice none 0])) rfl rfl ?_)
               refine dR0 rfl rfl rfl rfl rfl ?_
               refine dM rfl rfl rfl rfl (obj := .cells 46 2 zeS) (v := at' (.slice (some (G.n + 2 + 0, 0)) 1)) rfl ?_
               refine dCm (Heap.set (Heap.push _ .dead) (G.n + 2 + 0) _) (.drop rfl .nil) (.drop rfl (.drop rfl .nil)) rfl rfl rfl rfl rfl (oAppK (lo := 0) (n := b1.length) (m := 1) (cs := csb) (new := zeS) rfl rfl rfl rfl (hrab.kp (show Kp [] G _ from kZ)) rfl gG rfl rfl rfl rfl rfl rfl rfl hclb (by have := hRd.hl1; (show (b1.length + 1) * 248 ≤ _); omega) (by have := hRd.hl1; omega) (fun a4 H4 hr4 hk4 ⟨id4, ha4, hid4, hg4⟩ => ?_))
               subst ha4
               have hg4l := Heap.get_lt hg4
               (try simp only [Heap.n_push, Heap.n_set] at hid4)
               have hk4n := hk4.n
               (try simp only [Heap.n_push, Heap.n_set] at hk4n)
               rw [rid_slice] at hk4
               have hx : idf ∉ ridq q1 ∧ ida ∉ ridq q1 := objs_q hND
               have hqn : G.n ∉ ridq q1 := fun hm => by have := (hrb _ (by rw [rid_slice]; exact hm)).2; omega
               have hf4 : H4.get idf = some (.cells 28 2 (fnD [102] (.slice p1 2) (.slice (some (idl, 0)) 2) (.slice q1 b1.length) [.int .i64 v1.kind, .int .i64 v1.n, .str v1.name, .int .i64 v1.op, .slice y1 v1.kids.length] ++ fnD [103] (.slice p2 1) (.slice l2 1) (.slice q2 b2.length) [.int .i64 v2.kind, .int .i64 v2.n, .str v2.name, .int .i64 v2.op, .slice y2 v2.kids.length])) := hk4.g _ _ gG rfl hx.1
               have ha4 : H4.get ida = some (.cells 44 2 [.str [97], .int .i64 la, .str [98], .int .i64 lb]) := hk4.g _ _ gG rfl hx.2
               have hp4 : H4.get G.n = some (.cells 32 1 [.slice (some (ida, 0)) 2, .slice (some (idf, 0)) 2]) := hk4.g _ _ gG rfl hqn
               have K4 : Kp ([ida, idf] ++ ridq q1) G H4 := Kp.trans (show Kp ([ida, idf] ++ ridq q1) G _ from kZ) hk4 (fun d hd => .inl (List.mem_append_right _ hd))
               refine ⟨⟨.inl rfl, .inl rfl, trivial⟩, ?_⟩
               refine dL rfl rfl rfl rfl (oIA (z := 17) (i := b1.length) (n := b1.length + 1) rfl rfl rfl rfl (by omega) ?_)
               refine dL rfl rfl rfl rfl (oV rfl ?_)
               refine dL rfl rfl rfl rfl (oW (at' (.ptr (some (_, _ + 3)))) rfl rfl ?_)
               refine dC0 .nil rfl rfl rfl rfl (oStore (n := 17) (cs' := csb ++ (stC 6 [120] [103] 0 zeX zeX (.slice none 0) (.slice none 0) (.slice none 0))) rfl rfl rfl gG rfl (by rw [List.length_append, hclb]; show 0 + b1.length * 17 + 17 ≤ b1.length * 17 + 17; omega) rfl (putL_snoc (z := zeS) (by rw [hclb]; omega) rfl) ?_)
               refine ⟨trivial, ?_⟩
               refine dC0 .nil rfl rfl rfl rfl (oStore (n := 1) (cs' := (fnD [102] (.slice p1 2) (.slice (some (idl, 0)) 2) (.slice (some (id4, 0)) (b1.length + 1)) [.int .i64 v1.kind, .int .i64 v1.n, .str v1.name, .int .i64 v1.op, .slice y1 v1.kids.length] ++ fnD [103] (.slice p2 1) (.slice l2 1) (.slice q2 b2.length) [.int .i64 v2.kind, .int .i64 v2.n, .str v2.name, .int .i64 v2.op, .slice y2 v2.kids.length])) rfl rfl rfl gG rfl (Nat.le_of_ble_eq_true rfl) rfl rfl ?_)
               refine ⟨trivial, ?_⟩
               refine dE0 ?_
               show TrP 159 _ _ _ _
               refine tH [(0, _), (1, _), (4, _), (5, _), (6, _), (7, _), (8, _), (17, _), (18, _), (31, _), (37, _), (56, _), (61, _), (70, _), (83, _), (99, _), (105, _), (111, _), (126, _), (139, _)] ?_
               refine tR ?_
               refine sV rfl rfl rfl ?_
               exact ⟨prg la lb (fnF (b1 ++ [st11]) v1) (fnG b2 v2), _, _, hRd.c11, (hRd.low (nm := [102]) (nm2 := [103]) (ls := ijL) (x := [st11]) (by decide) (by decide) (by decide) (by have := hRd.hv1.ht4 (by omega); omega)), lprog (ida := ida) (idf := idf) gG gG ⟨p1, _, some (id4, 0), _, by simp [fnD, fnF], (hLd.keep (by repeat (first | assumption | exact Kp.refl | refine Kp.push ?_ | refine Kp.set ?_ lL (by first | (left; simp; done) | (right; first | omega | (simp only [Heap.n_push, Heap.n_set]; omega)))))).2.1, (hLd.keep (by repeat (first | assumption | exact Kp.refl | refine Kp.push ?_ | refine Kp.set ?_ lL (by first | (left; simp; done) | (right; first | omega | (simp only [Heap.n_push, Heap.n_set]; omega)))))).2.2.1, (rowA_snoc (x := st11) hclb gG (hLb.imp fun s _ => LM.kp (hLd.keep (by repeat (first | assumption | exact Kp.refl | refine Kp.push ?_ | refine Kp.set ?_ lL (by first | (left; simp; done) | (right; first | omega | (simp only [Heap.n_push, Heap.n_set]; omega)))))).2.2.2.2 s) (stL (pa := none) (pt := none) (pe := none) (zeXL _) (zeXL _) RowQ.nil RowQ.nil RowQ.nil)), (hLd.keep (by repeat (first | assumption | exact Kp.refl | refine Kp.push ?_ | refine Kp.set ?_ lL (by first | (left; simp; done) | (right; first | omega | (simp only [Heap.n_push, Heap.n_set]; omega)))))).2.2.2.1⟩ (hLd.keep (by repeat (first | assumption | exact Kp.refl | refine Kp.push ?_ | refine Kp.set ?_ lL (by first | (left; simp; done) | (right; first | omega | (simp only [Heap.n_push, Heap.n_set]; omega)))))).1, gG, rfl, ⟨rfl, rfl, trivial⟩⟩
              ·
               refine dL rfl rfl rfl rfl (oV rfl ?_)
               refine dL rfl rfl rfl rfl (oV rfl ?_)
               refine dL rfl rfl rfl rfl (oW (at' (.ptr (some (_, _ + 3)))) rfl rfl ?_)
               refine dR0 rfl rfl rfl rfl (op_load_at (x := .at (.slice q1 b1.length)) rfl gG rfl) ?_
               refine dL rfl rfl rfl rfl (oW (.one (.agg [_, _, _, .int .i64 0, .int .i64 0, .int .i64 0, .str [], .int .i64 0, .slice none 0, .int .i64 0, .int .i64 0, .str [], .int .i64 0, .slice none 0, .slice none 0, .slice none 0, .slice none 0])) rfl rfl ?_)
               refine dR0 rfl rfl rfl rfl rfl ?_
               refine dM rfl rfl rfl rfl (obj := .cells 46 2 zeS) (v := at' (.slice (some (G.n + 2 + 0, 0)) 1)) rfl ?_
               refine dCm (Heap.set (Heap.push _ .dead) (G.n + 2 + 0) _) (.drop rfl .nil) (.drop rfl (.drop rfl .nil)) rfl rfl rfl rfl rfl (oAppK (lo := 0) (n := b1.length) (m := 1) (cs := csb) (new := zeS) rfl rfl rfl rfl (hrab.kp (show Kp [] G _ from kZ)) rfl gG rfl rfl rfl rfl rfl rfl rfl hclb (by have := hRd.hl1; (show (b1.length + 1) * 248 ≤ _); omega) (by have := hRd.hl1; omega) (fun a4 H4 hr4 hk4 ⟨id4, ha4, hid4, hg4⟩ => ?_))
               subst ha4
               have hg4l := Heap.get_lt hg4
               (try simp only [Heap.n_push, Heap.n_set] at hid4)
               have hk4n := hk4.n
               (try simp only [Heap.n_push, Heap.n_set] at hk4n)
               rw [rid_slice] at hk4
               have hx : idf ∉ ridq q1 ∧ ida ∉ ridq q1 := objs_q hND
               have hqn : G.n ∉ ridq q1 := fun hm => by have := (hrb _ (by rw [rid_slice]; exact hm)).2; omega
               have hf4 : H4.get idf = some (.cells 28 2 (fnD [102] (.slice p1 2) (.slice (some (idl, 0)) 2) (.slice q1 b1.length) [.int .i64 v1.kind, .int .i64 v1.n, .str v1.name, .int .i64 v1.op, .slice y1 v1.kids.length] ++ fnD [103] (.slice p2 1) (.slice l2 1) (.slice q2 b2.length) [.int .i64 v2.kind, .int .i64 v2.n, .str v2.name, .int .i64 v2.op, .slice y2 v2.kids.length])) := hk4.g _ _ gG rfl hx.1
               have ha4 : H4.get ida = some (.cells 44 2 [.str [97], .int .i64 la, .str [98], .int .i64 lb]) := hk4.g _ _ gG rfl hx.2
               have hp4 : H4.get G.n = some (.cells 32 1 [.slice (some (ida, 0)) 2, .slice (some (idf, 0)) 2]) := hk4.g _ _ gG rfl hqn
               have K4 : Kp ([ida, idf] ++ ridq q1) G H4 := Kp.trans (show Kp ([ida, idf] ++ ridq q1) G _ from kZ) hk4 (fun d hd => .inl (List.mem_append_right _ hd))
               refine ⟨⟨.inl rfl, .inl rfl, trivial⟩, ?_⟩
               refine dL rfl rfl rfl rfl (oIA (z := 17) (i := b1.length) (n := b1.length + 1) rfl rfl rfl rfl (by omega) ?_)
               refine dL rfl rfl rfl rfl (oV rfl ?_)
               refine dL rfl rfl rfl rfl (oW (at' (.ptr (some (_, _ + 3)))) rfl rfl ?_)
               refine dC0 .nil rfl rfl rfl rfl (oStore (n := 1) (cs' := (fnD [102] (.slice p1 2) (.slice (some (idl, 0)) 2) (.slice (some (id4, 0)) (b1.length + 1)) [.int .i64 v1.kind, .int .i64 v1.n, .str v1.name, .int .i64 v1.op, .slice y1 v1.kids.length] ++ fnD [103] (.slice p2 1) (.slice l2 1) (.slice q2 b2.length) [.int .i64 v2.kind, .int .i64 v2.n, .str v2.name, .int .i64 v2.op, .slice y2 v2.kids.length])) rfl rfl rfl gG rfl (Nat.le_of_ble_eq_true rfl) rfl rfl ?_)
               refine ⟨trivial, ?_⟩
               refine dC0 .nil rfl rfl rfl rfl (oStore (n := 17) (cs' := csb ++ (stC 6 [120] [103] 0 zeX zeX (.slice none 0) (.slice none 0) (.slice none 0))) rfl rfl rfl gG rfl (by rw [List.length_append, hclb]; show 0 + b1.length * 17 + 17 ≤ b1.length * 17 + 17; omega) rfl (putL_snoc (z := zeS) (by rw [hclb]; omega) rfl) ?_)
               refine ⟨trivial, ?_⟩
               refine dE0 ?_
               show TrP 159 _ _ _ _
               refine tH [(0, _), (1, _), (4, _), (5, _), (6, _), (7, _), (8, _), (17, _), (18, _), (31, _), (37, _), (56, _), (61, _), (70, _), (83, _), (99, _), (105, _), (111, _), (126, _), (139, _)] ?_
               refine tR ?_
               refine sV rfl rfl rfl ?_
               exact ⟨prg la lb (fnF (b1 ++ [st11]) v1) (fnG b2 v2), _, _, hRd.c11, (hRd.low (nm := [102]) (nm2 := [103]) (ls := ijL) (x := [st11]) (by decide) (by decide) (by decide) (by have := hRd.hv1.ht4 (by omega); omega)), lprog (ida := ida) (idf := idf) gG gG ⟨p1, _, some (id4, 0), _, by simp [fnD, fnF], (hLd.keep (by repeat (first | assumption | exact Kp.refl | refine Kp.push ?_ | refine Kp.set ?_ lL (by first | (left; simp; done) | (right; first | omega | (simp only [Heap.n_push, Heap.n_set]; omega)))))).2.1, (hLd.keep (by repeat (first | assumption | exact Kp.refl | refine Kp.push ?_ | refine Kp.set ?_ lL (by first | (left; simp; done) | (right; first | omega | (simp only [Heap.n_push, Heap.n_set]; omega)))))).2.2.1, (rowA_snoc (x := st11) hclb gG (hLb.imp fun s _ => LM.kp (hLd.keep (by repeat (first | assumption | exact Kp.refl | refine Kp.push ?_ | refine Kp.set ?_ lL (by first | (left; simp; done) | (right; first | omega | (simp only [Heap.n_push, Heap.n_set]; omega)))))).2.2.2.2 s) (stL (pa := none) (pt := none) (pe := none) (zeXL _) (zeXL _) RowQ.nil RowQ.nil RowQ.nil)), (hLd.keep (by repeat (first | assumption | exact Kp.refl | refine Kp.push ?_ | refine Kp.set ?_ lL (by first | (left; simp; done) | (right; first | omega | (simp only [Heap.n_push, Heap.n_set]; omega)))))).2.2.2.1⟩ (hLd.keep (by repeat (first | assumption | exact Kp.refl | refine Kp.push ?_ | refine Kp.set ?_ lL (by first | (left; simp; done) | (right; first | omega | (simp only [Heap.n_push, Heap.n_set]; omega)))))).1, gG, rfl, ⟨rfl, rfl, trivial⟩⟩
             ·
              refine sV rfl rfl rfl ?_
              show TrP 159 _ _ _ _
              refine tH [(0, _), (1, _), (4, _), (5, _), (6, _), (7, _), (8, _), (17, _), (18, _), (31, _), (37, _), (56, _), (61, _), (70, _), (83, _), (99, _), (105, _), (111, _), (126, _), (139, _)] ?_
              refine tF rfl ?_
              refine Tri.skip ?_
              exact ⟨prg la lb (fnF b1 v1) (fnG b2 v2), _, _, hRd.c12, (hRd.low0 (nm := [102]) (ls := ijL) (nm2 := [103]) (by decide) (by have := hRd.hv1.ht4 (by omega); omega)), lprog (ida := ida) (idf := idf) gG gG ⟨p1, _, _, _, rfl, (hLd.keep (by repeat (first | assumption | exact Kp.refl | refine Kp.push ?_ | refine Kp.set ?_ lL (by first | (left; simp; done) | (right; first | omega | (simp only [Heap.n_push, Heap.n_set]; omega)))))).2.1, (hLd.keep (by repeat (first | assumption | exact Kp.refl | refine Kp.push ?_ | refine Kp.set ?_ lL (by first | (left; simp; done) | (right; first | omega | (simp only [Heap.n_push, Heap.n_set]; omega)))))).2.2.1, hLd.body (by repeat (first | assumption | exact Kp.refl | refine Kp.push ?_ | refine Kp.set ?_ lL (by first | (left; simp; done) | (right; first | omega | (simp only [Heap.n_push, Heap.n_set]; omega))))), (hLd.keep (by repeat (first | assumption | exact Kp.refl | refine Kp.push ?_ | refine Kp.set ?_ lL (by first | (left; simp; done) | (right; first | omega | (simp only [Heap.n_push, Heap.n_set]; omega)))))).2.2.2.1⟩ (hLd.keep (by repeat (first | assumption | exact Kp.refl | refine Kp.push ?_ | refine Kp.set ?_ lL (by first | (left; simp; done) | (right; first | omega | (simp only [Heap.n_push, Heap.n_set]; omega)))))).1, gG, rfl, ⟨rfl, rfl, trivial⟩⟩
 rintro lk1 H1 ⟨p, cs0, w, hchk, hlow, hLP, hcell, hcl, hh⟩
 refine Tri.has hh ?_
 refine Tri.seq ?_
 refine tR ?_
 obtain ⟨ca, cb, rfl⟩ : ∃ a b, cs0 = [a, b] := by
   match cs0, hcl with
   | [a, b], _ => exact ⟨a, b, rfl⟩
 refine sO rfl rfl (oLoad (x := .agg [ca, cb]) rfl gG rfl ?_)
 refine sO rfl rfl (oF rfl (fnOk_of Try.func8 (by decide) rfl) (Check_ok p _ _ (hLP.kp kZ) hlow) ?_)
 refine sV rfl rfl rfl ?_
 refine sO rfl rfl (oE rfl (fun h155 => ?_) (fun h155 => (h155 hchk).elim))
 refine sV rfl rfl rfl ?_
 refine sO rfl rfl (oF rfl (fnOk_of Try.func3 (by decide) rfl) (examples_ok _) ?_)
 iterate 2 refine sV rfl rfl rfl ?_
 show TrP 159 _ _ _ _
 refine tH [(4, _), (5, _), (8, _)] ?_
 refine Tri.ret ?_
 refine ⟨trivial, _, rfl, ?_⟩
 exact ⟨rfl, trivial⟩
end Go.Proofs.Ytceakkomleaibaa
