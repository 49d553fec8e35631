/-
  CONTRACTS of the checker's walkers over trees, for any closure whose contract is known (printed by wip/tools/walk.py from wip/specs/chkA.py). Written in this session.
-/
import Derived.Test.YtceakkomleaibaaTa
import Derived.Test.YtceakkomleaibaaLa
namespace Go.Proofs.Ytceakkomleaibaa
open Go.Ea
set_option maxRecDepth 100000
set_option linter.unusedVariables false
set_option linter.unusedSimpArgs false
/-- What is known of a closure g with the cells caps: it asks step of what it is handed; Inv says what its own cells S hold. H0: where the trees lie. -/
structure Clo {A S : Type} (R : Heap → A → List AT → Prop) (ht : A → Nat) (H0 : Heap) (g : Nat) (caps : List (Nat × Nat)) (own : List Nat) (Inv : S → Heap → Prop) (step : S → A × Nat → Bool × S) : Prop where
  ok : FnOk Try.prog g
  stab : ∀ s H H', Inv s H → Kp [] H H' → Inv s H'
  kp : ∀ s H, Inv s H → Kp [] H0 H
  lt : ∀ s H, Inv s H → ∀ i ∈ own, i < H.n
  run : ∀ s a d H cs, Inv s H → R H0 a cs → ht a < 2305843009213693952 → Sim Try.prog g ([.one (.agg cs), at' (.int .i64 (d : Nat))] ++ caps.map fun p => at' (.ptr (some p))) H fun u G => u = at' (.bool (step s (a, d)).1) ∧ ((step s (a, d)).1 = true → Inv (step s (a, d)).2 G) ∧ Kp own H G

theorem walkExpr_ok {S : Type} {H0 : Heap} {g : Nat} {caps : List (Nat × Nat)} {own : List Nat} {Inv : S → Heap → Prop} {step : S → Exp × Nat → Bool × S} (hc : Clo LX htE H0 g caps own Inv step) : ∀ (e : Exp) (s : S) (d : Nat) (H : Heap) (cs : List AT), Inv s H → LX H0 e cs → htE e < 2305843009213693952 → d + htE e < 4611686018427387904 → Sim Try.prog 34 [.one (.agg cs), at' (.int .i64 d), at' (.fn g caps)] H (fun u G => u = at' (.bool (runL step s (preE d e)).1) ∧ ((runL step s (preE d e)).1 = true → Inv (runL step s (preE d e)).2 G) ∧ Kp own H G) := by
 intro e
 refine Exp.ind (Q := fun e => ∀ (s : S) (d : Nat) (H : Heap) (cs : List AT), Inv s H → LX H0 e cs → htE e < 2305843009213693952 → d + htE e < 4611686018427387904 → Sim Try.prog 34 [.one (.agg cs), at' (.int .i64 d), at' (.fn g caps)] H (fun u G => u = at' (.bool (runL step s (preE d e)).1) ∧ ((runL step s (preE d e)).1 = true → Inv (runL step s (preE d e)).2 G) ∧ Kp own H G)) ?_ e
 intro ek en enm eo kids ih s d H cs hI hL hb hd
 obtain ⟨p, rfl, hk⟩ := LX_iff.1 hL
 have hkl := len_kids (k := ek) (n := en) (nm := enm) (o := eo) (kids := kids)
 refine Sim.of_tri Try.func34 rfl ?_
 show TrP 28 _ _ _ _
 refine Tri.seq ?_
 refine tR ?_
 refine sO rfl rfl (oBox (cs := [_, _, _, _, _]) rfl rfl ?_)
 refine sV rfl rfl rfl ?_
 show TrP 28 _ _ _ _
 refine tH [(0, _), (1, _), (2, _), (3, _), (6, _)] ?_
 refine Tri.seq ?_
 refine Tri.seq ?_
 refine tR ?_
 refine sV rfl rfl rfl ?_
 refine sO rfl rfl (oLoad (x := .agg [_, _, _, _, _]) rfl gG rfl ?_)
 refine sV rfl rfl rfl ?_
 refine sO rfl rfl (oCB rfl hc.ok (hc.run s _ d _ _ (hc.stab _ _ _ hI kP) hL hb) (fun G1 hQ h12 => ?_) (fun G1 hQ h12 => ?_))
 ·
  obtain ⟨hI1, hK1⟩ := hQ
  try (replace hI1 := hI1 h12)
  have hK2 : Kp own H G1 := (kpL (Kp.push Kp.refl)).own2 hK1
  refine sV rfl rfl rfl ?_
  show TrP 28 _ _ _ _
  refine tH [(0, _), (1, _), (2, _), (3, _), (6, _), (13, _)] ?_
  refine tF rfl ?_
  refine Tri.skip ?_
  show TrP 28 _ _ _ _
  refine tH [(0, _), (1, _), (2, _), (3, _), (6, _), (13, _)] ?_
  refine Tri.seq ?_
  refine Tri.seq ?_
  refine tR ?_
  have hcell : G1.get H.n = some (.cells 24 1 [.int .i64 ek, .int .i64 en, .str enm, .int .i64 eo, .slice p kids.length]) := hK1.g _ _ Heap.push_new rfl (fun hm => by have := hc.lt _ _ hI _ hm; omega)
  refine sO rfl rfl (oW (at' (.ptr (some (_, 4)))) rfl rfl ?_)
  refine sO rfl rfl (oLoad (x := .at _) rfl gG rfl ?_)
  iterate 2 refine sV rfl rfl rfl ?_
  show TrP 28 _ _ _ _
  refine tH [(0, _), (1, _), (2, _), (3, _), (6, _), (13, _), (15, _), (16, _), (17, _)] ?_
  refine Tri.block ?_
  refine Tri.loop (fun k lk1 H1 => ∃ (j : Nat) (s2 : S), k = kids.length - j ∧ j ≤ kids.length ∧ runL step (step s (.mk ek en enm eo kids, d)).2 (preEl (d + 1) kids) = runL step s2 (preEl (d + 1) (kids.drop j)) ∧ Inv s2 H1 ∧ Kp own H H1 ∧ Has lk1 [(1, at' (.int .i64 d)), (2, at' (.fn g caps)), (15, at' (.slice p kids.length)), (16, at' (.int .i64 kids.length)), (17, at' (.int .i64 j))]) (kids.length) (⟨0, _, rfl, by omega, by simp, hI1, hK2, ⟨rfl, rfl, rfl, rfl, rfl, trivial⟩⟩) ?_
  rintro k lk1 H1 ⟨j, s2, hk3, hj, hrun, hI2, hK3, hh⟩
  refine Tri.has hh ?_
  refine Tri.seq ?_
  refine tR ?_
  refine sO rfl rfl (oP rfl (fun h18 => ?_) (fun h18 => ?_))
  ·
   show TrP 28 _ _ _ _
   refine tH [(1, _), (2, _), (15, _), (16, _), (17, _), (18, _)] ?_
   refine Tri.seq ?_
   refine tT rfl ?_
   refine Tri.skip ?_
   show TrP 28 _ _ _ _
   refine tH [(1, _), (2, _), (15, _), (16, _), (17, _), (18, _)] ?_
   refine Tri.seq ?_
   refine Tri.block ?_
   refine Tri.seq ?_
   refine tR ?_
   obtain ⟨x, hx⟩ : ∃ x, kids[j]? = some x := ⟨_, List.getElem?_eq_getElem (by omega)⟩
   obtain ⟨id, o, T, q, c, rfl, hg0, hle, hLx⟩ := hk.at hx
   have hg := (hc.kp _ _ hI2).get hg0 rfl
   obtain ⟨p2, hcs, hk2⟩ := hLx.out
   rw [hcs] at hLx
   refine sO rfl rfl (oIA (z := 5) rfl rfl rfl rfl (by omega) ?_)
   refine sO rfl rfl (oLoad (x := .agg [.int .i64 x.kind, .int .i64 x.n, .str x.name, .int .i64 x.op, .slice p2 x.kids.length]) rfl gG (part_all hcs hle rfl rfl rfl) ?_)
   refine sO rfl rfl (oAlloc (cs := [.int .i64 0, .int .i64 0, .str [], .int .i64 0, .slice none 0]) rfl rfl ?_)
   refine sO rfl rfl (oStore (n := 5) (cs' := [_, _, _, _, _]) rfl rfl rfl gG rfl (Nat.le_of_ble_eq_true rfl) rfl rfl ?_)
   show TrP 28 _ _ _ _
   refine tH [(1, _), (2, _), (8, _), (15, _), (16, _), (17, _), (18, _)] ?_
   refine Tri.seq ?_
   refine tR ?_
   refine sO rfl rfl (oLoad (x := .agg [_, _, _, _, _]) rfl gG rfl ?_)
   refine sV rfl rfl rfl ?_
   refine sO rfl rfl (oAdd (m := 1) rfl (by omega) ?_)
   refine sV rfl rfl rfl ?_
   refine sO rfl rfl (oCB rfl (fnOk_of Try.func34 (by decide) rfl) (ih x (List.mem_of_getElem? hx) s2 (d + 1) _ _ (hc.stab _ _ _ hI2 kP) hLx (by have := ht_kid (e := .mk ek en enm eo kids) (List.mem_of_getElem? hx); omega) (by have := ht_kid (e := .mk ek en enm eo kids) (List.mem_of_getElem? hx); omega)) (fun G2 hQ h25 => ?_) (fun G2 hQ h25 => ?_))
   ·
    obtain ⟨hI3, hK4⟩ := hQ
    try (replace hI3 := hI3 h25)
    have hK5 : Kp own H G2 := (hK3.own kP).own2 hK4
    rw [drop_at hx] at hrun
    simp only [preEl] at hrun
    rw [runL_app, h25] at hrun
    refine sV rfl rfl rfl ?_
    show TrP 28 _ _ _ _
    refine tH [(1, _), (2, _), (8, _), (15, _), (16, _), (17, _), (18, _), (26, _)] ?_
    refine tF rfl ?_
    refine Tri.skip ?_
    show TrP 28 _ _ _ _
    refine tH [(1, _), (2, _), (8, _), (15, _), (16, _), (17, _), (18, _), (26, _)] ?_
    refine tR ?_
    refine sO rfl rfl (oAdd (m := 1) rfl (by omega) ?_)
    refine sV rfl rfl rfl ?_
    rw [if_pos rfl] at hrun
    exact ⟨kids.length - (j + 1), by omega, j + 1, _, rfl, by omega, hrun, hI3, hK5, ⟨rfl, rfl, rfl, rfl, rfl, trivial⟩⟩
   ·
    obtain ⟨hI3, hK4⟩ := hQ
    try (replace hI3 := hI3 h25)
    have hK5 : Kp own H G2 := (hK3.own kP).own2 hK4
    rw [drop_at hx] at hrun
    simp only [preEl] at hrun
    rw [runL_app, h25] at hrun
    refine sV rfl rfl rfl ?_
    show TrP 28 _ _ _ _
    refine tH [(1, _), (2, _), (8, _), (15, _), (16, _), (17, _), (18, _), (26, _)] ?_
    refine tT rfl ?_
    refine Tri.seq ?_
    refine tR ?_
    refine sV rfl rfl rfl ?_
    show TrP 28 _ _ _ _
    refine tH [(1, _), (2, _), (6, _), (8, _), (15, _), (16, _), (17, _), (18, _), (26, _)] ?_
    refine Tri.ret ?_
    refine ⟨trivial, _, rfl, ?_⟩
    have e : runL step s (preE d (.mk ek en enm eo kids)) = (false, (runL step s2 (preE (d + 1) x)).2) := by
      simp only [preE, runL]; rw [if_pos h12, hrun, if_neg (by simp)]
    rw [e]; exact ⟨rfl, fun h => Bool.noConfusion h, hK5⟩
  ·
   show TrP 28 _ _ _ _
   refine tH [(1, _), (2, _), (15, _), (16, _), (17, _), (18, _)] ?_
   refine Tri.seq ?_
   refine tF rfl ?_
   refine Tri.exit ?_
   show TrP 28 _ _ _ _
   refine tH [(1, _), (2, _), (15, _), (16, _), (17, _), (18, _)] ?_
   refine Tri.seq ?_
   refine tR ?_
   refine sV rfl rfl rfl ?_
   show TrP 28 _ _ _ _
   refine tH [(1, _), (2, _), (6, _), (15, _), (16, _), (17, _), (18, _)] ?_
   refine Tri.ret ?_
   refine ⟨trivial, _, rfl, ?_⟩
   have e : runL step s (preE d (.mk ek en enm eo kids)) = (true, s2) := by
     simp only [preE, runL]; rw [if_pos h12, hrun, List.drop_eq_nil_of_le (by omega)]; simp only [preEl, runL]
   rw [e]; exact ⟨rfl, fun _ => hI2, hK3⟩
 ·
  obtain ⟨hI1, hK1⟩ := hQ
  try (replace hI1 := hI1 h12)
  have hK2 : Kp own H G1 := (kpL (Kp.push Kp.refl)).own2 hK1
  refine sV rfl rfl rfl ?_
  show TrP 28 _ _ _ _
  refine tH [(0, _), (1, _), (2, _), (3, _), (6, _), (13, _)] ?_
  refine tT rfl ?_
  refine Tri.seq ?_
  refine tR ?_
  refine sV rfl rfl rfl ?_
  show TrP 28 _ _ _ _
  refine tH [(0, _), (1, _), (2, _), (3, _), (6, _), (13, _)] ?_
  refine Tri.ret ?_
  refine ⟨trivial, _, rfl, ?_⟩
  have e : runL step s (preE d (.mk ek en enm eo kids)) = (false, (step s (.mk ek en enm eo kids, d)).2) := by simp only [preE, runL]; rw [if_neg (by rw [h12]; simp)]
  rw [e]; exact ⟨rfl, fun h => Bool.noConfusion h, hK2⟩
theorem walkStmts_ok {S : Type} {H0 : Heap} {g : Nat} {caps : List (Nat × Nat)} {own : List Nat} {Inv : S → Heap → Prop} {step : S → Stm × Nat → Bool × S} (hc : Clo LM htS H0 g caps own Inv step) : ∀ (N : Nat), ∀ (l : List Stm) (s : S) (d : Nat) (H : Heap) (p : Option (Nat × Nat)), (∀ x ∈ l, htS x < N) → Inv s H → RowQ H0 17 (LM H0) l p → N ≤ 2305843009213693952 → d + N < 4611686018427387904 → l.length < 4611686018427387904 → Sim Try.prog 28 [at' (.slice p l.length), at' (.int .i64 d), at' (.fn g caps)] H (fun u G => u = at' (.bool (runL step s (preSl d l)).1) ∧ ((runL step s (preSl d l)).1 = true → Inv (runL step s (preSl d l)).2 G) ∧ Kp own H G) := by
 intro N
 refine Nat.strongRecOn (motive := fun N => ∀ (l : List Stm) (s : S) (d : Nat) (H : Heap) (p : Option (Nat × Nat)), (∀ x ∈ l, htS x < N) → Inv s H → RowQ H0 17 (LM H0) l p → N ≤ 2305843009213693952 → d + N < 4611686018427387904 → l.length < 4611686018427387904 → Sim Try.prog 28 [at' (.slice p l.length), at' (.int .i64 d), at' (.fn g caps)] H (fun u G => u = at' (.bool (runL step s (preSl d l)).1) ∧ ((runL step s (preSl d l)).1 = true → Inv (runL step s (preSl d l)).2 G) ∧ Kp own H G)) N ?_
 intro N ih l s d H p hN hI hrow hNB hd hlen
 refine Sim.of_tri Try.func28 rfl ?_
 show TrP 39 _ _ _ _
 refine Tri.seq ?_
 refine tR ?_
 refine sV rfl rfl rfl ?_
 show TrP 39 _ _ _ _
 refine tH [(0, _), (1, _), (2, _), (6, _)] ?_
 refine Tri.seq ?_
 refine Tri.seq ?_
 refine tR ?_
 iterate 3 refine sV rfl rfl rfl ?_
 show TrP 39 _ _ _ _
 refine tH [(0, _), (1, _), (2, _), (6, _), (9, _), (10, _), (11, _)] ?_
 refine Tri.block ?_
 refine Tri.loop (fun k lk1 H1 => ∃ (j : Nat) (s2 : S), k = l.length - j ∧ j ≤ l.length ∧ runL step s (preSl d l) = runL step s2 (preSl d (l.drop j)) ∧ Inv s2 H1 ∧ Kp own H H1 ∧ Has lk1 [(1, at' (.int .i64 d)), (2, at' (.fn g caps)), (9, at' (.slice p l.length)), (10, at' (.int .i64 l.length)), (11, at' (.int .i64 j))]) (l.length) (⟨0, s, rfl, by omega, by simp, hI, Kp.refl, ⟨rfl, rfl, rfl, rfl, rfl, trivial⟩⟩) ?_
 rintro k lk1 H1 ⟨j, s2, hk3, hj, hrun, hI2, hK3, hh⟩
 refine Tri.has hh ?_
 refine Tri.seq ?_
 refine tR ?_
 refine sO rfl rfl (oP rfl (fun h12 => ?_) (fun h12 => ?_))
 ·
  show TrP 39 _ _ _ _
  refine tH [(1, _), (2, _), (9, _), (10, _), (11, _), (12, _)] ?_
  refine Tri.seq ?_
  refine tT rfl ?_
  refine Tri.skip ?_
  show TrP 39 _ _ _ _
  refine tH [(1, _), (2, _), (9, _), (10, _), (11, _), (12, _)] ?_
  refine Tri.seq ?_
  refine Tri.block ?_
  refine Tri.seq ?_
  refine tR ?_
  obtain ⟨x, hx⟩ : ∃ x, l[j]? = some x := ⟨_, List.getElem?_eq_getElem (by omega)⟩
  have hxm := List.mem_of_getElem? hx
  have hxN := hN x hxm
  obtain ⟨id, o, T, q, c, rfl, hg0, hle, hLx⟩ := hrow.at hx
  have hg := (hc.kp _ _ hI2).get hg0 rfl
  obtain ⟨a1, a2, a3, a4, a5, na, b1, b2, b3, b4, b5, nb, pa, pt, pe, hcs, hsub, hval, hargs, hthn, hels⟩ := hLx.out
  rw [hcs] at hLx
  refine sO rfl rfl (oIA (z := 17) rfl rfl rfl rfl (by omega) ?_)
  refine sO rfl rfl (oLoad (x := .agg [_, _, _, _, _, _, _, _, _, _, _, _, _, _, _, _, _]) rfl gG (part_all hcs hle rfl rfl rfl) ?_)
  refine sO rfl rfl (oAlloc (cs := [.int .i64 0, .str [], .str [], .int .i64 0, .int .i64 0, .int .i64 0, .str [], .int .i64 0, .slice none 0, .int .i64 0, .int .i64 0, .str [], .int .i64 0, .slice none 0, .slice none 0, .slice none 0, .slice none 0]) rfl rfl ?_)
  refine sO rfl rfl (oStore (n := 17) (cs' := [_, _, _, _, _, _, _, _, _, _, _, _, _, _, _, _, _]) rfl rfl rfl gG rfl (Nat.le_of_ble_eq_true rfl) rfl rfl ?_)
  show TrP 39 _ _ _ _
  refine tH [(1, _), (2, _), (8, _), (9, _), (10, _), (11, _), (12, _)] ?_
  refine Tri.seq ?_
  refine tR ?_
  refine sV rfl rfl rfl ?_
  refine sO rfl rfl (oLoad (x := .agg [_, _, _, _, _, _, _, _, _, _, _, _, _, _, _, _, _]) rfl gG rfl ?_)
  refine sV rfl rfl rfl ?_
  refine sO rfl rfl (oCB rfl hc.ok (hc.run s2 _ d _ _ (hc.stab _ _ _ hI2 kP) hLx (by omega)) (fun G1 hQ h18 => ?_) (fun G1 hQ h18 => ?_))
  ·
   obtain ⟨hI3, hK1⟩ := hQ
   try (replace hI3 := hI3 h18)
   have hcell : G1.get H1.n = some (.cells 46 1 [.int .i64 x.kind, .str x.name, .str x.to, .int .i64 x.n, .int .i64 a1, .int .i64 a2, .str a3, .int .i64 a4, .slice a5 na, .int .i64 b1, .int .i64 b2, .str b3, .int .i64 b4, .slice b5 nb, .slice pa x.args.length, .slice pt x.thn.length, .slice pe x.els.length]) := hK1.g _ _ gG rfl (fun hm => by have := hc.lt _ _ hI2 _ hm; omega)
   have hK4 : Kp own H G1 := (hK3.own kP).own2 hK1
   have hlt1 := Heap.get_lt hcell
   rw [drop_at hx] at hrun
   simp only [preSl] at hrun
   rw [preS_eq, List.cons_append] at hrun
   simp only [runL, h18] at hrun
   iterate 2 refine sV rfl rfl rfl ?_
   refine sO rfl rfl (oW (at' (.ptr (some (_, 15)))) rfl rfl ?_)
   refine sO rfl rfl (oLoad (x := .at _) rfl gG rfl ?_)
   refine sV rfl rfl rfl ?_
   refine sO rfl rfl (oAdd (m := 1) rfl (by omega) ?_)
   refine sV rfl rfl rfl ?_
   refine sO rfl rfl (oCB rfl (fnOk_of Try.func28 (by decide) rfl) (ih (htS x) hxN x.thn _ (d + 1) _ _ (fun y hy => by have := ht_thn hy; omega) (hc.stab _ _ _ hI3 kP) hthn (by omega) (by omega) (by have := len_stm x; omega)) (fun G2 hQ h26 => ?_) (fun G2 hQ h26 => ?_))
   ·
    obtain ⟨hI4, hK5⟩ := hQ
    try (replace hI4 := hI4 h26)
    have hcell2 := hK5.g _ _ hcell rfl (fun hm => by have := hc.lt _ _ hI2 _ hm; omega)
    have hK6 : Kp own H G2 := hK4.own2 hK5
    rw [if_pos trivial, List.append_assoc, runL_app, h26] at hrun
    iterate 3 refine sV rfl rfl rfl ?_
    refine sO rfl rfl (oW (at' (.ptr (some (_, 16)))) rfl rfl ?_)
    refine sO rfl rfl (oLoad (x := .at _) rfl gG rfl ?_)
    refine sV rfl rfl rfl ?_
    refine sO rfl rfl (oAdd (m := 1) rfl (by omega) ?_)
    refine sV rfl rfl rfl ?_
    refine sO rfl rfl (oCB rfl (fnOk_of Try.func28 (by decide) rfl) (ih (htS x) hxN x.els _ (d + 1) _ _ (fun y hy => by have := ht_els hy; omega) (hc.stab _ _ _ hI4 kP) hels (by omega) (by omega) (by have := len_stm x; omega)) (fun G3 hQ h35 => ?_) (fun G3 hQ h35 => ?_))
    ·
     obtain ⟨hI5, hK7⟩ := hQ
     try (replace hI5 := hI5 h35)
     have hK8 : Kp own H G3 := hK6.own2 hK7
     rw [if_pos rfl, runL_app, h35] at hrun
     iterate 2 refine sV rfl rfl rfl ?_
     show TrP 39 _ _ _ _
     refine tH [(1, _), (2, _), (8, _), (9, _), (10, _), (11, _), (12, _), (37, _)] ?_
     refine tF rfl ?_
     refine Tri.skip ?_
     show TrP 39 _ _ _ _
     refine tH [(1, _), (2, _), (8, _), (9, _), (10, _), (11, _), (12, _), (37, _)] ?_
     refine tR ?_
     refine sO rfl rfl (oAdd (m := 1) rfl (by omega) ?_)
     refine sV rfl rfl rfl ?_
     rw [if_pos rfl] at hrun
     exact ⟨l.length - (j + 1), by omega, j + 1, _, rfl, by omega, hrun, hI5, hK8, ⟨rfl, rfl, rfl, rfl, rfl, trivial⟩⟩
    ·
     obtain ⟨hI5, hK7⟩ := hQ
     try (replace hI5 := hI5 h35)
     have hK8 : Kp own H G3 := hK6.own2 hK7
     rw [if_pos rfl, runL_app, h35] at hrun
     iterate 2 refine sV rfl rfl rfl ?_
     show TrP 39 _ _ _ _
     refine tH [(1, _), (2, _), (8, _), (9, _), (10, _), (11, _), (12, _), (37, _)] ?_
     refine tT rfl ?_
     refine Tri.seq ?_
     refine tR ?_
     refine sV rfl rfl rfl ?_
     show TrP 39 _ _ _ _
     refine tH [(1, _), (2, _), (6, _), (8, _), (9, _), (10, _), (11, _), (12, _), (37, _)] ?_
     refine Tri.ret ?_
     refine ⟨trivial, _, rfl, ?_⟩
     first
       | (rw [if_pos rfl, if_neg (by simp)] at hrun; rw [hrun]; exact ⟨rfl, fun h => Bool.noConfusion h, hK8⟩)
       | (rw [if_neg (by simp)] at hrun; rw [hrun]; exact ⟨rfl, fun h => Bool.noConfusion h, hK8⟩)
       | (rw [if_neg (by simp)] at hrun; rw [hrun]; exact ⟨rfl, fun h => Bool.noConfusion h, hK6⟩)
       | (rw [if_neg (by simp)] at hrun; rw [hrun]; exact ⟨rfl, fun h => Bool.noConfusion h, hK4⟩)
   ·
    obtain ⟨hI4, hK5⟩ := hQ
    try (replace hI4 := hI4 h26)
    have hcell2 := hK5.g _ _ hcell rfl (fun hm => by have := hc.lt _ _ hI2 _ hm; omega)
    have hK6 : Kp own H G2 := hK4.own2 hK5
    rw [if_pos trivial, List.append_assoc, runL_app, h26] at hrun
    iterate 3 refine sV rfl rfl rfl ?_
    iterate 7 refine sN rfl rfl ?_
    refine sV rfl rfl rfl ?_
    show TrP 39 _ _ _ _
    refine tH [(1, _), (2, _), (8, _), (9, _), (10, _), (11, _), (12, _), (37, _)] ?_
    refine tT rfl ?_
    refine Tri.seq ?_
    refine tR ?_
    refine sV rfl rfl rfl ?_
    show TrP 39 _ _ _ _
    refine tH [(1, _), (2, _), (6, _), (8, _), (9, _), (10, _), (11, _), (12, _), (37, _)] ?_
    refine Tri.ret ?_
    refine ⟨trivial, _, rfl, ?_⟩
    first
      | (rw [if_pos rfl, if_neg (by simp)] at hrun; rw [hrun]; exact ⟨rfl, fun h => Bool.noConfusion h, hK8⟩)
      | (rw [if_neg (by simp)] at hrun; rw [hrun]; exact ⟨rfl, fun h => Bool.noConfusion h, hK8⟩)
      | (rw [if_neg (by simp)] at hrun; rw [hrun]; exact ⟨rfl, fun h => Bool.noConfusion h, hK6⟩)
      | (rw [if_neg (by simp)] at hrun; rw [hrun]; exact ⟨rfl, fun h => Bool.noConfusion h, hK4⟩)
  ·
   obtain ⟨hI3, hK1⟩ := hQ
   try (replace hI3 := hI3 h18)
   have hcell : G1.get H1.n = some (.cells 46 1 [.int .i64 x.kind, .str x.name, .str x.to, .int .i64 x.n, .int .i64 a1, .int .i64 a2, .str a3, .int .i64 a4, .slice a5 na, .int .i64 b1, .int .i64 b2, .str b3, .int .i64 b4, .slice b5 nb, .slice pa x.args.length, .slice pt x.thn.length, .slice pe x.els.length]) := hK1.g _ _ gG rfl (fun hm => by have := hc.lt _ _ hI2 _ hm; omega)
   have hK4 : Kp own H G1 := (hK3.own kP).own2 hK1
   have hlt1 := Heap.get_lt hcell
   rw [drop_at hx] at hrun
   simp only [preSl] at hrun
   rw [preS_eq, List.cons_append] at hrun
   simp only [runL, h18] at hrun
   iterate 2 refine sV rfl rfl rfl ?_
   iterate 7 refine sN rfl rfl ?_
   iterate 2 refine sV rfl rfl rfl ?_
   iterate 7 refine sN rfl rfl ?_
   refine sV rfl rfl rfl ?_
   show TrP 39 _ _ _ _
   refine tH [(1, _), (2, _), (8, _), (9, _), (10, _), (11, _), (12, _), (37, _)] ?_
   refine tT rfl ?_
   refine Tri.seq ?_
   refine tR ?_
   refine sV rfl rfl rfl ?_
   show TrP 39 _ _ _ _
   refine tH [(1, _), (2, _), (6, _), (8, _), (9, _), (10, _), (11, _), (12, _), (37, _)] ?_
   refine Tri.ret ?_
   refine ⟨trivial, _, rfl, ?_⟩
   first
     | (rw [if_pos rfl, if_neg (by simp)] at hrun; rw [hrun]; exact ⟨rfl, fun h => Bool.noConfusion h, hK8⟩)
     | (rw [if_neg (by simp)] at hrun; rw [hrun]; exact ⟨rfl, fun h => Bool.noConfusion h, hK8⟩)
     | (rw [if_neg (by simp)] at hrun; rw [hrun]; exact ⟨rfl, fun h => Bool.noConfusion h, hK6⟩)
     | (rw [if_neg (by simp)] at hrun; rw [hrun]; exact ⟨rfl, fun h => Bool.noConfusion h, hK4⟩)
 ·
  show TrP 39 _ _ _ _
  refine tH [(1, _), (2, _), (9, _), (10, _), (11, _), (12, _)] ?_
  refine Tri.seq ?_
  refine tF rfl ?_
  refine Tri.exit ?_
  show TrP 39 _ _ _ _
  refine tH [(1, _), (2, _), (9, _), (10, _), (11, _), (12, _)] ?_
  refine Tri.seq ?_
  refine tR ?_
  refine sV rfl rfl rfl ?_
  show TrP 39 _ _ _ _
  refine tH [(1, _), (2, _), (6, _), (9, _), (10, _), (11, _), (12, _)] ?_
  refine Tri.ret ?_
  refine ⟨trivial, _, rfl, ?_⟩
  have e : runL step s (preSl d l) = (true, s2) := by
    rw [hrun, List.drop_eq_nil_of_le (by omega)]; simp only [preSl, runL]
  rw [e]; exact ⟨rfl, fun _ => hI2, hK3⟩
/-- What walkExprs' closure asks of a statement. -/
def stepX {S : Type} (step : S → Exp × Nat → Bool × S) (s : S) (a : Stm × Nat) : Bool × S := runL step s (preE 0 a.1.sub ++ (preE 0 a.1.value ++ preEl 0 a.1.args))

theorem walkX_ok {S : Type} {H0 : Heap} {g : Nat} {caps : List (Nat × Nat)} {own : List Nat} {Inv : S → Heap → Prop} {step : S → Exp × Nat → Bool × S} (hc : Clo LX htE H0 g caps own Inv step) (idf : Nat) (hown : idf ∉ own) (x : Stm) (s : S) (d : Nat) (H : Heap) (cs : List AT) (hI : Inv s H) (hfn : H.get idf = some (.cells 68 1 [.fn g caps])) (hLx : LM H0 x cs) (hht : htS x < 2305843009213693952) : Sim Try.prog 54 [.one (.agg cs), at' (.int .i64 d), at' (.ptr (some (idf, 0)))] H (fun u G => u = at' (.bool (stepX step s (x, d)).1) ∧ ((stepX step s (x, d)).1 = true → Inv (stepX step s (x, d)).2 G) ∧ Kp own H G) := by
 obtain ⟨a1, a2, a3, a4, a5, na, b1, b2, b3, b4, b5, nb, pa, pt, pe, rfl, hsub, hval, hargs, hthn, hels⟩ := hLx.out
 obtain ⟨hh1, hh2, hh3⟩ := ht_sub x
 have hlx := len_stm x
 refine Sim.of_tri Try.func54 rfl ?_
 show TrP 32 _ _ _ _
 refine Tri.seq ?_
 refine tR ?_
 refine sO rfl rfl (oBox (cs := [_, _, _, _, _, _, _, _, _, _, _, _, _, _, _, _, _]) rfl rfl ?_)
 refine sV rfl rfl rfl ?_
 show TrP 32 _ _ _ _
 refine tH [(0, _), (2, _), (3, _), (5, _)] ?_
 refine Tri.seq ?_
 refine Tri.seq ?_
 refine tR ?_
 refine sO rfl rfl (oW (at' (.ptr (some (_, 4)))) rfl rfl ?_)
 refine sO rfl rfl (oLoad (x := .agg [_, _, _, _, _]) rfl gG rfl ?_)
 refine sO rfl rfl (oLoad (x := .at _) rfl gG rfl ?_)
 refine sO rfl rfl (oCB rfl (fnOk_of Try.func34 (by decide) rfl) (walkExpr_ok hc x.sub _ 0 _ _ (hc.stab _ _ _ hI kP) hsub (by omega) (by omega)) (fun G1 hQ h11 => ?_) (fun G1 hQ h11 => ?_))
 ·
  obtain ⟨hI1, hK1⟩ := hQ
  try (replace hI1 := hI1 h11)
  have hcell : G1.get H.n = some (.cells 46 1 [.int .i64 x.kind, .str x.name, .str x.to, .int .i64 x.n, .int .i64 a1, .int .i64 a2, .str a3, .int .i64 a4, .slice a5 na, .int .i64 b1, .int .i64 b2, .str b3, .int .i64 b4, .slice b5 nb, .slice pa x.args.length, .slice pt x.thn.length, .slice pe x.els.length]) := hK1.g _ _ Heap.push_new rfl (fun hm => by have := hc.lt _ _ hI _ hm; omega)
  have hfn1 : G1.get idf = some (.cells 68 1 [.fn g caps]) := hK1.g _ _ (Heap.push_old hfn) rfl hown
  have hK2 : Kp own H G1 := (kpL (Kp.push Kp.refl)).own2 hK1
  iterate 2 refine sV rfl rfl rfl ?_
  refine sO rfl rfl (oW (at' (.ptr (some (_, 9)))) rfl rfl ?_)
  refine sO rfl rfl (oLoad (x := .agg [_, _, _, _, _]) rfl gG rfl ?_)
  refine sO rfl rfl (oLoad (x := .at _) rfl gG rfl ?_)
  refine sO rfl rfl (oCB rfl (fnOk_of Try.func34 (by decide) rfl) (walkExpr_ok hc x.value _ 0 _ _ (hc.stab _ _ _ hI1 kP) hval (by omega) (by omega)) (fun G2 hQ h17 => ?_) (fun G2 hQ h17 => ?_))
  ·
   obtain ⟨hI2, hK3⟩ := hQ
   try (replace hI2 := hI2 h17)
   have hcell2 := hK3.g _ _ hcell rfl (fun hm => by have := hc.lt _ _ hI _ hm; omega)
   have hfn2 := hK3.g _ _ hfn1 rfl hown
   have hK4 : Kp own H G2 := hK2.own2 hK3
   iterate 2 refine sV rfl rfl rfl ?_
   show TrP 32 _ _ _ _
   refine tH [(0, _), (2, _), (3, _), (5, _), (19, _)] ?_
   refine tF rfl ?_
   refine Tri.skip ?_
   show TrP 32 _ _ _ _
   refine tH [(0, _), (2, _), (3, _), (5, _), (19, _)] ?_
   refine Tri.seq ?_
   refine Tri.seq ?_
   refine tR ?_
   refine sO rfl rfl (oW (at' (.ptr (some (_, 14)))) rfl rfl ?_)
   refine sO rfl rfl (oLoad (x := .at _) rfl gG rfl ?_)
   iterate 2 refine sV rfl rfl rfl ?_
   show TrP 32 _ _ _ _
   refine tH [(0, _), (2, _), (3, _), (5, _), (19, _), (21, _), (22, _), (23, _)] ?_
   refine Tri.block ?_
   refine Tri.loop (fun k lk1 H1 => ∃ (j : Nat) (s3 : S), k = x.args.length - j ∧ j ≤ x.args.length ∧ runL step (runL step (runL step s (preE 0 x.sub)).2 (preE 0 x.value)).2 (preEl 0 x.args) = runL step s3 (preEl 0 (x.args.drop j)) ∧ Inv s3 H1 ∧ Kp own H H1 ∧ H1.get idf = some (.cells 68 1 [.fn g caps]) ∧ Has lk1 [(2, at' (.ptr (some (idf, 0)))), (21, at' (.slice pa x.args.length)), (22, at' (.int .i64 x.args.length)), (23, at' (.int .i64 j))]) (x.args.length) (⟨0, _, rfl, by omega, by simp, hI2, hK4, hfn2, ⟨rfl, rfl, rfl, rfl, trivial⟩⟩) ?_
   rintro k lk1 H1 ⟨j, s3, hk3, hj, hrun, hI3, hK5, hfn3, hh⟩
   refine Tri.has hh ?_
   have hlt2 := Heap.get_lt hfn3
   refine Tri.seq ?_
   refine tR ?_
   refine sO rfl rfl (oP rfl (fun h24 => ?_) (fun h24 => ?_))
   ·
    show TrP 32 _ _ _ _
    refine tH [(2, _), (21, _), (22, _), (23, _), (24, _)] ?_
    refine Tri.seq ?_
    refine tT rfl ?_
    refine Tri.skip ?_
    show TrP 32 _ _ _ _
    refine tH [(2, _), (21, _), (22, _), (23, _), (24, _)] ?_
    refine Tri.seq ?_
    refine Tri.block ?_
    refine Tri.seq ?_
    refine tR ?_
    obtain ⟨y, hy⟩ : ∃ y, x.args[j]? = some y := ⟨_, List.getElem?_eq_getElem (by omega)⟩
    have hym := hh3 y (List.mem_of_getElem? hy)
    obtain ⟨id, o, T, q, c, rfl, hg0, hle, hLy⟩ := hargs.at hy
    have hg := (hc.kp _ _ hI3).get hg0 rfl
    obtain ⟨p2, hcs, hk2⟩ := hLy.out
    rw [hcs] at hLy
    refine sO rfl rfl (oIA (z := 5) rfl rfl rfl rfl (by omega) ?_)
    refine sO rfl rfl (oLoad (x := .agg [.int .i64 y.kind, .int .i64 y.n, .str y.name, .int .i64 y.op, .slice p2 y.kids.length]) rfl gG (part_all hcs hle rfl rfl rfl) ?_)
    refine sO rfl rfl (oAlloc (cs := [.int .i64 0, .int .i64 0, .str [], .int .i64 0, .slice none 0]) rfl rfl ?_)
    refine sO rfl rfl (oStore (n := 5) (cs' := [_, _, _, _, _]) rfl rfl rfl gG rfl (Nat.le_of_ble_eq_true rfl) rfl rfl ?_)
    show TrP 32 _ _ _ _
    refine tH [(2, _), (7, _), (21, _), (22, _), (23, _), (24, _)] ?_
    refine Tri.seq ?_
    refine tR ?_
    refine sO rfl rfl (oLoad (x := .agg [_, _, _, _, _]) rfl gG rfl ?_)
    refine sO rfl rfl (oLoad (x := .at _) rfl gG rfl ?_)
    refine sO rfl rfl (oCB rfl (fnOk_of Try.func34 (by decide) rfl) (walkExpr_ok hc y _ 0 _ _ (hc.stab _ _ _ hI3 kP) hLy (by omega) (by omega)) (fun G3 hQ h29 => ?_) (fun G3 hQ h29 => ?_))
    ·
     obtain ⟨hI4, hK6⟩ := hQ
     try (replace hI4 := hI4 h29)
     have hK7 : Kp own H G3 := (hK5.own kP).own2 hK6
     have hfn4 := hK6.g _ _ (show _ = some (.cells 68 1 [.fn g caps]) from gG) rfl hown
     rw [drop_at hy] at hrun
     simp only [preEl] at hrun
     rw [runL_app, h29] at hrun
     refine sV rfl rfl rfl ?_
     show TrP 32 _ _ _ _
     refine tH [(2, _), (7, _), (21, _), (22, _), (23, _), (24, _), (30, _)] ?_
     refine tF rfl ?_
     refine Tri.skip ?_
     show TrP 32 _ _ _ _
     refine tH [(2, _), (7, _), (21, _), (22, _), (23, _), (24, _), (30, _)] ?_
     refine tR ?_
     refine sO rfl rfl (oAdd (m := 1) rfl (by omega) ?_)
     refine sV rfl rfl rfl ?_
     rw [if_pos rfl] at hrun
     exact ⟨x.args.length - (j + 1), by omega, j + 1, _, rfl, by omega, hrun, hI4, hK7, hfn4, ⟨rfl, rfl, rfl, rfl, trivial⟩⟩
    ·
     obtain ⟨hI4, hK6⟩ := hQ
     try (replace hI4 := hI4 h29)
     have hK7 : Kp own H G3 := (hK5.own kP).own2 hK6
     have hfn4 := hK6.g _ _ (show _ = some (.cells 68 1 [.fn g caps]) from gG) rfl hown
     rw [drop_at hy] at hrun
     simp only [preEl] at hrun
     rw [runL_app, h29] at hrun
     refine sV rfl rfl rfl ?_
     show TrP 32 _ _ _ _
     refine tH [(2, _), (7, _), (21, _), (22, _), (23, _), (24, _), (30, _)] ?_
     refine tT rfl ?_
     refine Tri.seq ?_
     refine tR ?_
     refine sV rfl rfl rfl ?_
     show TrP 32 _ _ _ _
     refine tH [(2, _), (5, _), (7, _), (21, _), (22, _), (23, _), (24, _), (30, _)] ?_
     refine Tri.ret ?_
     refine ⟨trivial, _, rfl, ?_⟩
     have e : stepX step s (x, d) = (false, (runL step s3 (preE 0 y)).2) := by unfold stepX; rw [runL_app, if_pos h11, runL_app, if_pos h17, hrun, if_neg (by simp)]
     rw [e]; exact ⟨rfl, fun h => Bool.noConfusion h, hK7⟩
   ·
    show TrP 32 _ _ _ _
    refine tH [(2, _), (21, _), (22, _), (23, _), (24, _)] ?_
    refine Tri.seq ?_
    refine tF rfl ?_
    refine Tri.exit ?_
    show TrP 32 _ _ _ _
    refine tH [(2, _), (21, _), (22, _), (23, _), (24, _)] ?_
    refine Tri.seq ?_
    refine tR ?_
    refine sV rfl rfl rfl ?_
    show TrP 32 _ _ _ _
    refine tH [(2, _), (5, _), (21, _), (22, _), (23, _), (24, _)] ?_
    refine Tri.ret ?_
    refine ⟨trivial, _, rfl, ?_⟩
    have e : stepX step s (x, d) = (true, s3) := by unfold stepX; rw [runL_app, if_pos h11, runL_app, if_pos h17, hrun, List.drop_eq_nil_of_le (by omega)]; simp only [preEl, runL]
    rw [e]; exact ⟨rfl, fun _ => hI3, hK5⟩
  ·
   obtain ⟨hI2, hK3⟩ := hQ
   try (replace hI2 := hI2 h17)
   have hcell2 := hK3.g _ _ hcell rfl (fun hm => by have := hc.lt _ _ hI _ hm; omega)
   have hfn2 := hK3.g _ _ hfn1 rfl hown
   have hK4 : Kp own H G2 := hK2.own2 hK3
   iterate 2 refine sV rfl rfl rfl ?_
   show TrP 32 _ _ _ _
   refine tH [(0, _), (2, _), (3, _), (5, _), (19, _)] ?_
   refine tT rfl ?_
   refine Tri.seq ?_
   refine tR ?_
   refine sV rfl rfl rfl ?_
   show TrP 32 _ _ _ _
   refine tH [(0, _), (2, _), (3, _), (5, _), (19, _)] ?_
   refine Tri.ret ?_
   refine ⟨trivial, _, rfl, ?_⟩
   first
     | (have e : stepX step s (x, d) = (false, (runL step (runL step s (preE 0 x.sub)).2 (preE 0 x.value)).2) := by unfold stepX; rw [runL_app, if_pos h11, runL_app, if_neg (by rw [h17]; simp)]
        rw [e]; exact ⟨rfl, fun h => Bool.noConfusion h, hK4⟩)
     | (have e : stepX step s (x, d) = (false, (runL step s (preE 0 x.sub)).2) := by unfold stepX; rw [runL_app, if_neg (by rw [h11]; simp)]
        rw [e]; exact ⟨rfl, fun h => Bool.noConfusion h, hK2⟩)
 ·
  obtain ⟨hI1, hK1⟩ := hQ
  try (replace hI1 := hI1 h11)
  have hcell : G1.get H.n = some (.cells 46 1 [.int .i64 x.kind, .str x.name, .str x.to, .int .i64 x.n, .int .i64 a1, .int .i64 a2, .str a3, .int .i64 a4, .slice a5 na, .int .i64 b1, .int .i64 b2, .str b3, .int .i64 b4, .slice b5 nb, .slice pa x.args.length, .slice pt x.thn.length, .slice pe x.els.length]) := hK1.g _ _ Heap.push_new rfl (fun hm => by have := hc.lt _ _ hI _ hm; omega)
  have hfn1 : G1.get idf = some (.cells 68 1 [.fn g caps]) := hK1.g _ _ (Heap.push_old hfn) rfl hown
  have hK2 : Kp own H G1 := (kpL (Kp.push Kp.refl)).own2 hK1
  iterate 2 refine sV rfl rfl rfl ?_
  iterate 5 refine sN rfl rfl ?_
  refine sV rfl rfl rfl ?_
  show TrP 32 _ _ _ _
  refine tH [(0, _), (2, _), (3, _), (5, _), (19, _)] ?_
  refine tT rfl ?_
  refine Tri.seq ?_
  refine tR ?_
  refine sV rfl rfl rfl ?_
  show TrP 32 _ _ _ _
  refine tH [(0, _), (2, _), (3, _), (5, _), (19, _)] ?_
  refine Tri.ret ?_
  refine ⟨trivial, _, rfl, ?_⟩
  first
    | (have e : stepX step s (x, d) = (false, (runL step (runL step s (preE 0 x.sub)).2 (preE 0 x.value)).2) := by unfold stepX; rw [runL_app, if_pos h11, runL_app, if_neg (by rw [h17]; simp)]
       rw [e]; exact ⟨rfl, fun h => Bool.noConfusion h, hK4⟩)
    | (have e : stepX step s (x, d) = (false, (runL step s (preE 0 x.sub)).2) := by unfold stepX; rw [runL_app, if_neg (by rw [h11]; simp)]
       rw [e]; exact ⟨rfl, fun h => Bool.noConfusion h, hK2⟩)
theorem cloX {S : Type} {H0 : Heap} {g : Nat} {caps : List (Nat × Nat)} {own : List Nat} {Inv : S → Heap → Prop} {step : S → Exp × Nat → Bool × S} (hc : Clo LX htE H0 g caps own Inv step) (idf : Nat) (hown : idf ∉ own) :
    Clo LM htS H0 54 [(idf, 0)] own (fun s H => Inv s H ∧ H.get idf = some (.cells 68 1 [.fn g caps])) (stepX step) :=
  ⟨fnOk_of Try.func54 (by decide) rfl, fun s H H' h k => ⟨hc.stab s H H' h.1 k, k.get h.2 rfl⟩, fun s H h => hc.kp s H h.1, fun s H h => hc.lt s H h.1,
   fun s a d H cs h hr hh => (walkX_ok hc idf hown a s d H cs h.1 h.2 hr hh).mono fun u G ⟨h1, h2, h3⟩ => ⟨h1, fun hb => ⟨h2 hb, h3.g _ _ h.2 rfl hown⟩, h3⟩⟩
def runF {S : Type} (step : S → Exp × Nat → Bool × S) (s : S) (f : Fn1) : Bool × S := if (runL step s (preE 0 f.value)).1 = true then runL (stepX step) (runL step s (preE 0 f.value)).2 (preSl 0 f.body) else (false, (runL step s (preE 0 f.value)).2)
/-- No tree is higher than an index reaches. -/
def Low (f : Fn1) : Prop := htE f.value < 2305843009213693952 ∧ (∀ s ∈ f.body, htS s < 2305843009213693952) ∧ f.body.length < 2305843009213693952

theorem walkExprs_ok {S : Type} {H0 : Heap} {g : Nat} {caps : List (Nat × Nat)} {own : List Nat} {Inv : S → Heap → Prop} {step : S → Exp × Nat → Bool × S} (hc : Clo LX htE H0 g caps own Inv step) (f : Fn1) (hl : Low f) (s : S) (H : Heap) (cs : List AT) (hI : Inv s H) (hLf : LFn H0 f cs) : Sim Try.prog 30 [.one (.agg cs), at' (.fn g caps)] H (fun u G => u = at' (.bool (runF step s f).1) ∧ ((runF step s f).1 = true → Inv (runF step s f).2 G) ∧ Kp own H G) := by
 obtain ⟨pp, pl, pb, b1, b2, b3, b4, b5, nb, rfl, hpar, hloc, hbody, hval⟩ := hLf.out
 obtain ⟨hl1, hl2, hl3⟩ := hl
 have hown1 : H.n ∉ own := fun hm => by have := hc.lt _ _ hI _ hm; omega
 have hown2 : H.n + 1 ∉ own := fun hm => by have := hc.lt _ _ hI _ hm; omega
 refine Sim.of_tri Try.func30 rfl ?_
 show TrP 15 _ _ _ _
 refine Tri.seq ?_
 refine tR ?_
 refine sO rfl rfl (oBox (cs := [_, _, _, _, _, _, _, _, _]) rfl rfl ?_)
 refine sO rfl rfl (oBox (cs := [.fn g caps]) rfl rfl ?_)
 refine sV rfl rfl rfl ?_
 show TrP 15 _ _ _ _
 refine tH [(0, _), (1, _), (2, _), (3, _), (4, _)] ?_
 refine Tri.seq ?_
 refine tR ?_
 refine sO rfl rfl (oW (at' (.ptr (some (_, 4)))) rfl rfl ?_)
 refine sO rfl rfl (oLoad (x := .agg [_, _, _, _, _]) rfl gG rfl ?_)
 refine sO rfl rfl (oLoad (x := .at _) rfl gG rfl ?_)
 refine sO rfl rfl (oCB rfl (fnOk_of Try.func34 (by decide) rfl) (walkExpr_ok hc f.value _ 0 _ _ (hc.stab _ _ _ hI kP) hval (by omega) (by omega)) (fun G1 hQ h8 => ?_) (fun G1 hQ h8 => ?_))
 ·
  obtain ⟨hI1, hK1⟩ := hQ
  try (replace hI1 := hI1 h8)
  have hcell : G1.get H.n = some (.cells 28 1 [.str f.name, .slice pp f.params.length, .slice pl f.locals.length, .slice pb f.body.length, .int .i64 b1, .int .i64 b2, .str b3, .int .i64 b4, .slice b5 nb]) := hK1.g _ _ (Heap.push_old Heap.push_new) rfl hown1
  have hfn1 : G1.get (H.n + 1) = some (.cells 68 1 [.fn g caps]) := hK1.g _ _ (Heap.push_new (H := H.push _)) rfl hown2
  have hK2 : Kp own H G1 := (kpL (Kp.push (Kp.push Kp.refl))).own2 hK1
  refine sV rfl rfl rfl ?_
  refine sO rfl rfl (oW (at' (.ptr (some (_, 3)))) rfl rfl ?_)
  refine sO rfl rfl (oLoad (x := .at _) rfl gG rfl ?_)
  refine sV rfl rfl rfl ?_
  refine sO rfl rfl (oCB rfl (fnOk_of Try.func28 (by decide) rfl) (walkStmts_ok (cloX hc (H.n + 1) hown2) 2305843009213693952 f.body _ 0 _ _ hl2 ⟨hI1, hfn1⟩ hbody (Nat.le_refl _) (by omega) (by omega)) (fun G2 hQ h13 => ?_) (fun G2 hQ h13 => ?_))
  ·
   obtain ⟨hI2, hK3⟩ := hQ
   have hK4 : Kp own H G2 := hK2.own2 hK3
   iterate 2 refine sV rfl rfl rfl ?_
   show TrP 15 _ _ _ _
   refine tH [(0, _), (1, _), (2, _), (3, _), (4, _)] ?_
   refine Tri.ret ?_
   refine ⟨trivial, _, rfl, ?_⟩
   first
     | (rw [show runF step s f = runL (stepX step) (runL step s (preE 0 f.value)).2 (preSl 0 f.body) from by unfold runF; rw [if_pos h8], h13]; first | exact ⟨rfl, fun h => Bool.noConfusion h, hK4⟩ | exact ⟨rfl, fun _ => (hI2 h13).1, hK4⟩)
     | (rw [show runF step s f = (false, (runL step s (preE 0 f.value)).2) from by unfold runF; rw [if_neg (by rw [h8]; simp)]]; exact ⟨rfl, fun h => Bool.noConfusion h, hK2⟩)
  ·
   obtain ⟨hI2, hK3⟩ := hQ
   have hK4 : Kp own H G2 := hK2.own2 hK3
   iterate 2 refine sV rfl rfl rfl ?_
   show TrP 15 _ _ _ _
   refine tH [(0, _), (1, _), (2, _), (3, _), (4, _)] ?_
   refine Tri.ret ?_
   refine ⟨trivial, _, rfl, ?_⟩
   first
     | (rw [show runF step s f = runL (stepX step) (runL step s (preE 0 f.value)).2 (preSl 0 f.body) from by unfold runF; rw [if_pos h8], h13]; first | exact ⟨rfl, fun h => Bool.noConfusion h, hK4⟩ | exact ⟨rfl, fun _ => (hI2 h13).1, hK4⟩)
     | (rw [show runF step s f = (false, (runL step s (preE 0 f.value)).2) from by unfold runF; rw [if_neg (by rw [h8]; simp)]]; exact ⟨rfl, fun h => Bool.noConfusion h, hK2⟩)
 ·
  obtain ⟨hI1, hK1⟩ := hQ
  try (replace hI1 := hI1 h8)
  have hcell : G1.get H.n = some (.cells 28 1 [.str f.name, .slice pp f.params.length, .slice pl f.locals.length, .slice pb f.body.length, .int .i64 b1, .int .i64 b2, .str b3, .int .i64 b4, .slice b5 nb]) := hK1.g _ _ (Heap.push_old Heap.push_new) rfl hown1
  have hfn1 : G1.get (H.n + 1) = some (.cells 68 1 [.fn g caps]) := hK1.g _ _ (Heap.push_new (H := H.push _)) rfl hown2
  have hK2 : Kp own H G1 := (kpL (Kp.push (Kp.push Kp.refl))).own2 hK1
  refine sV rfl rfl rfl ?_
  iterate 4 refine sN rfl rfl ?_
  iterate 2 refine sV rfl rfl rfl ?_
  show TrP 15 _ _ _ _
  refine tH [(0, _), (1, _), (2, _), (3, _), (4, _)] ?_
  refine Tri.ret ?_
  refine ⟨trivial, _, rfl, ?_⟩
  first
    | (rw [show runF step s f = runL (stepX step) (runL step s (preE 0 f.value)).2 (preSl 0 f.body) from by unfold runF; rw [if_pos h8], h13]; first | exact ⟨rfl, fun h => Bool.noConfusion h, hK4⟩ | exact ⟨rfl, fun _ => (hI2 h13).1, hK4⟩)
    | (rw [show runF step s f = (false, (runL step s (preE 0 f.value)).2) from by unfold runF; rw [if_neg (by rw [h8]; simp)]]; exact ⟨rfl, fun h => Bool.noConfusion h, hK2⟩)
end Go.Proofs.Ytceakkomleaibaa
