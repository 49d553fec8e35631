/-
  CONTRACTS of the reader of seeds: Next, names, Word, Expr (printed by wip/tools/walk.py from wip/specs/keepB.py). Written in this session.
-/
import Derived.Test.YtceakkomleaibaaKa
import Derived.Test.YtceakkomleaibaaTa
namespace Go.Proofs.Ytceakkomleaibaa
open Go.Ea
set_option maxRecDepth 100000
set_option linter.unusedVariables false
set_option linter.unusedSimpArgs false

section
variable {P : Program} {eqs : Eqs} {lk : Env} {H : Heap} {K : AV → Heap → Prop}
theorem oB35 {T e : TypeId} {x y w : Operand} {a1 a2 a3 a4 a5 b1 b2 b3 b4 b5 c1 c2 c3 c4 c5 : AT} {z : List AT} (hx : rho lk x = some (.one (.agg [a1, a2, a3, a4, a5]))) (hy : rho lk y = some (.one (.agg [b1, b2, b3, b4, b5]))) (hw : rho lk w = some (.one (.agg [c1, c2, c3, c4, c5]))) (hu : isSliceD (P.underlying T) = some e) (hz : sizeO P e = some 5) (h0 : zeroOf P e = some (.agg z)) (hzl : z.length = 5)
    (hk : K (at' (.slice (some (H.n, 0)) 3)) (H.push (.cells e 2 [a1, a2, a3, a4, a5, b1, b2, b3, b4, b5, c1, c2, c3, c4, c5]))) : opP P eqs (.buildSlice T 3 #[(0, x), (1, y), (2, w)]) lk H K :=
  oV (v := at' (.slice (some (H.n, 0)) 3)) (H' := H.push (.cells e 2 [a1, a2, a3, a4, a5, b1, b2, b3, b4, b5, c1, c2, c3, c4, c5])) (by
    match z, hzl with
    | [z1, z2, z3, z4, z5], _ =>
      show op_buildSlice T 3 #[(0, x), (1, y), (2, w)] P eqs lk H = _
      unfold op_buildSlice
      have hp : partsOf lk #[(0, x), (1, y), (2, w)].toList = some [(0, .one (.agg [a1, a2, a3, a4, a5])), (1, .one (.agg [b1, b2, b3, b4, b5])), (2, .one (.agg [c1, c2, c3, c4, c5]))] := by
        show (match rho lk x, (match rho lk y, (match rho lk w, some [] with | some a, some l => some ((2, a) :: l) | _, _ => none) with | some a, some l => some ((1, a) :: l) | _, _ => none) with | some a, some l => some ((0, a) :: l) | _, _ => none) = _
        rw [hx, hy, hw]
      rw [hu, hp]
      simp only [hz, h0]
      rfl) hk
theorem oB25 {T e : TypeId} {x y : Operand} {a1 a2 a3 a4 a5 b1 b2 b3 b4 b5 : AT} {z : List AT} (hx : rho lk x = some (.one (.agg [a1, a2, a3, a4, a5]))) (hy : rho lk y = some (.one (.agg [b1, b2, b3, b4, b5]))) (hu : isSliceD (P.underlying T) = some e) (hz : sizeO P e = some 5) (h0 : zeroOf P e = some (.agg z)) (hzl : z.length = 5)
    (hk : K (at' (.slice (some (H.n, 0)) 2)) (H.push (.cells e 2 [a1, a2, a3, a4, a5, b1, b2, b3, b4, b5]))) : opP P eqs (.buildSlice T 2 #[(0, x), (1, y)]) lk H K :=
  oV (v := at' (.slice (some (H.n, 0)) 2)) (H' := H.push (.cells e 2 [a1, a2, a3, a4, a5, b1, b2, b3, b4, b5])) (by
    match z, hzl with
    | [z1, z2, z3, z4, z5], _ =>
      show op_buildSlice T 2 #[(0, x), (1, y)] P eqs lk H = _
      unfold op_buildSlice
      have hp : partsOf lk #[(0, x), (1, y)].toList = some [(0, .one (.agg [a1, a2, a3, a4, a5])), (1, .one (.agg [b1, b2, b3, b4, b5]))] := by
        show (match rho lk x, (match rho lk y, some [] with | some a, some l => some ((1, a) :: l) | _, _ => none) with | some a, some l => some ((0, a) :: l) | _, _ => none) = _
        rw [hx, hy]
      rw [hu, hp]
      simp only [hz, h0]
      rfl) hk
end
/-- The variables of a function. -/
def nmL (f : Nat) : List (List UInt8) := if f = 0 then [[120], [121], [105], [106]] else [[110], [105]]
theorem nmL_pos (f : Nat) : 0 < (nmL f).length := by unfold nmL; split <;> decide
/-- The expressions that are read, at most k high. -/
inductive GX (nm : List (List UInt8)) : Nat → Exp → Prop
  | var {k : Nat} {s : List UInt8} (h : s ∈ nm) : GX nm k (.mk 2 0 s 0 [])
  | num {k : Nat} {n : Int} : GX nm k (.mk 1 n [] 0 [])
  | idx {k : Nat} {s : List UInt8} {e : Exp} (h : s = [97] ∨ s = [98]) : GX nm k e → GX nm (k + 1) (.mk 3 0 s 0 [e])
  | cond {k : Nat} {a b c : Exp} : GX nm k a → GX nm k b → GX nm k c → GX nm (k + 1) (.mk 5 0 [] 0 [a, b, c])
  | un {k : Nat} {o : Int} {e : Exp} (h : o = 20 ∨ o = 21) : GX nm k e → GX nm (k + 1) (.mk 4 0 [] o [e])
  | bin {k : Nat} {o : Int} {a b : Exp} (h : 4 ≤ o ∧ o ≤ 18) : GX nm k a → GX nm k b → GX nm (k + 1) (.mk 4 0 [] o [a, b])
abbrev RdR := Rd 55
def zeX : List AT := [.int .i64 0, .int .i64 0, .str [], .int .i64 0, .slice none 0]
def edgeL : List Int := [0, 1, -1, 2, -9223372036854775808, 9223372036854775807, 4294967296, -2147483648, 63, 64]
theorem map_at {β : Type} {f : β → AT} {l : List β} {i : Nat} {x : β} (h : l[i]? = some x) : (l.map f)[0 + i * 1]? = some (f x) := by rw [Nat.zero_add, Nat.mul_one, List.getElem?_map, h]; rfl

theorem Next_ok (x : Nat) (l : List Int) (lp : Nat) (H : Heap) (hR : RdR H x l lp) : Sim Try.prog 18 [at' (.ptr (some (x, 0)))] H (fun u G => u = at' (.int .i64 (l.headD 0)) ∧ RdR G x l.tail lp ∧ Kp [x] H G ∧ G.n = H.n) := by
 obtain ⟨q, hc, hrow, hqx⟩ := hR
 have hxl := Heap.get_lt hc
 refine Sim.of_tri Try.func18 rfl ?_
 show TrP 25 _ _ _ _
 refine Tri.seq ?_
 refine tR ?_
 refine sV rfl rfl rfl ?_
 show TrP 25 _ _ _ _
 refine tH [(0, _), (2, _)] ?_
 refine Tri.seq ?_
 refine Tri.seq ?_
 refine tR ?_
 iterate 2 refine sV rfl rfl rfl ?_
 refine sO rfl rfl (oW (at' (.ptr (some (_, _ + 0)))) rfl rfl ?_)
 refine sO rfl rfl (oLoad (x := .at _) rfl gG rfl ?_)
 refine sV rfl rfl rfl ?_
 refine sO rfl rfl (oE rfl (fun h9 => ?_) (fun h9 => ?_))
 ·
  show TrP 25 _ _ _ _
  refine tH [(0, _), (2, _), (9, _)] ?_
  refine tT rfl ?_
  refine Tri.seq ?_
  refine tR ?_
  refine sV rfl rfl rfl ?_
  show TrP 25 _ _ _ _
  refine tH [(0, _), (2, _), (9, _)] ?_
  refine Tri.ret ?_
  refine ⟨trivial, _, rfl, ?_⟩
  have : l = [] := List.length_eq_zero_iff.1 (by omega)
  subst this
  exact ⟨rfl, ⟨q, hc, hrow, hqx⟩, Kp.refl, rfl⟩
 ·
  show TrP 25 _ _ _ _
  refine tH [(0, _), (2, _), (9, _)] ?_
  refine tF rfl ?_
  refine Tri.skip ?_
  show TrP 25 _ _ _ _
  refine tH [(0, _), (2, _), (9, _)] ?_
  refine Tri.seq ?_
  refine tR ?_
  iterate 2 refine sV rfl rfl rfl ?_
  refine sO rfl rfl (oW (at' (.ptr (some (_, _ + 0)))) rfl rfl ?_)
  refine sO rfl rfl (oLoad (x := .at _) rfl gG rfl ?_)
  obtain ⟨y, r, rfl⟩ : ∃ y r, l = y :: r := by
    cases l with
    | nil => exact absurd rfl h9
    | cons y r => exact ⟨y, r, rfl⟩
  obtain ⟨id, o, T, q2, c, rfl, hg, hle, hcs⟩ := hrow.at (i := 0) (x := y) (fun _ => rfl) rfl
  refine sO rfl rfl (oIA (z := 1) (i := 0) rfl rfl rfl rfl (by simp) ?_)
  refine sO rfl rfl (oLoad (x := .at (.int .i64 y)) rfl gG (part_one hcs rfl rfl rfl) ?_)
  refine sV rfl rfl rfl ?_
  show TrP 25 _ _ _ _
  refine tH [(0, _), (2, _), (3, _), (9, _)] ?_
  refine Tri.seq ?_
  refine tR ?_
  iterate 3 refine sV rfl rfl rfl ?_
  refine sO rfl rfl (oW (at' (.ptr (some (_, _ + 0)))) rfl rfl ?_)
  refine sO rfl rfl (oLoad (x := .at _) rfl gG rfl ?_)
  refine sO rfl rfl (oSlcLo (m := 1) rfl rfl rfl rfl rfl (by simp) ?_)
  refine sV rfl rfl rfl ?_
  refine sO rfl rfl (oW (at' (.ptr (some (_, _ + 0)))) rfl rfl ?_)
  refine sO rfl rfl (oStore (n := 1) (cs' := _) rfl rfl rfl gG rfl (Nat.le_of_ble_eq_true rfl) rfl rfl ?_)
  show TrP 25 _ _ _ _
  refine tH [(0, _), (2, _), (3, _), (9, _)] ?_
  refine Tri.seq ?_
  refine tR ?_
  iterate 2 refine sV rfl rfl rfl ?_
  show TrP 25 _ _ _ _
  refine tH [(0, _), (2, _), (3, _), (9, _)] ?_
  refine Tri.ret ?_
  refine ⟨trivial, _, rfl, ?_⟩
  have hne : id ≠ x := by have := hqx _ rfl; simp only at this; omega
  refine ⟨rfl, ⟨some (id, o + 1 * 1), gG, ⟨fun h => (by cases h), fun id' o' hp => .inr ?_⟩, fun p hp => by cases hp; exact hqx (id, o) rfl⟩, Kp.set Kp.refl hxl (.inl (by simp)), rfl⟩
  cases hp
  have hle2 : o + (r.length + 1) * 1 ≤ c.length ∧ (c.drop o).take ((r.length + 1) * 1) = (y :: r).flatMap fun z => [AT.int .i64 z] := by
    rcases hrow.2 id o rfl with h0 | ⟨T', k', c', g1, g2, g3⟩
    · cases h0
    · rw [hg] at g1; cases g1; exact ⟨g2, g3⟩
  refine ⟨T, q2, c, Heap.set_old hg hne hxl, by (show o + 1 * 1 + r.length * 1 ≤ c.length); omega, ?_⟩
  have e := congrArg (List.drop 1) hle2.2
  rw [List.drop_take, List.drop_drop] at e
  have e2 : (r.length + 1) * 1 - 1 = r.length * 1 := by omega
  rw [e2] at e
  exact e
theorem names_ok (f : Nat) (H : Heap) : Sim Try.prog 43 [at' (.int .i64 f)] H (fun u G => ∃ q, u = at' (.slice (some (q, 0)) (nmL f).length) ∧ G.get q = some (.cells 9 2 ((nmL f).map AT.str)) ∧ H.n ≤ q ∧ Kp [] H G) := by
 refine Sim.of_tri Try.func43 rfl ?_
 show TrP 7 _ _ _ _
 refine Tri.seq ?_
 refine tR ?_
 refine sV rfl rfl rfl ?_
 show TrP 7 _ _ _ _
 refine tH [(0, _), (2, _)] ?_
 refine Tri.seq ?_
 refine Tri.seq ?_
 refine tR ?_
 refine sV rfl rfl rfl ?_
 refine sO rfl rfl (oE rfl (fun h4 => ?_) (fun h4 => ?_))
 ·
  show TrP 7 _ _ _ _
  refine tH [(0, _), (2, _), (4, _)] ?_
  refine tT rfl ?_
  refine Tri.seq ?_
  refine tR ?_
  refine sO rfl rfl (oV (v := at' (.slice (some (H.n, 0)) 4)) (H' := H.push (.cells 9 2 [.str [120], .str [121], .str [105], .str [106]])) rfl ?_)
  refine sV rfl rfl rfl ?_
  show TrP 7 _ _ _ _
  refine tH [(0, _), (2, _), (4, _)] ?_
  refine Tri.ret ?_
  refine ⟨trivial, _, rfl, ?_⟩
  have e : f = 0 := by omega
  subst e
  exact ⟨_, rfl, Heap.push_new, Nat.le_refl _, Kp.push Kp.refl⟩
 ·
  show TrP 7 _ _ _ _
  refine tH [(0, _), (2, _), (4, _)] ?_
  refine tF rfl ?_
  refine Tri.skip ?_
  show TrP 7 _ _ _ _
  refine tH [(0, _), (2, _), (4, _)] ?_
  refine Tri.seq ?_
  refine tR ?_
  refine sO rfl rfl (oV (v := at' (.slice (some (H.n, 0)) 2)) (H' := H.push (.cells 9 2 [.str [110], .str [105]])) rfl ?_)
  refine sV rfl rfl rfl ?_
  show TrP 7 _ _ _ _
  refine tH [(0, _), (2, _), (4, _)] ?_
  refine Tri.ret ?_
  refine ⟨trivial, _, rfl, ?_⟩
  have e : nmL f = [[110], [105]] := by unfold nmL; rw [if_neg (by omega)]
  rw [e]
  exact ⟨_, rfl, Heap.push_new, Nat.le_refl _, Kp.push Kp.refl⟩
theorem Word_ok (n raw : Int) (H : Heap) : Sim Try.prog 44 [at' (.int .i64 n), at' (.int .i64 raw)] H (fun u G => (∃ v : Int, u = at' (.int .i64 v)) ∧ G = H) := by
 refine Sim.trim ?_
 refine Sim.of_tri Try.func44 rfl ?_
 show TrP 25 _ _ _ _
 refine Tri.seq ?_
 refine tR ?_
 refine sV rfl rfl rfl ?_
 show TrP 25 _ _ _ _
 refine tH [(0, _), (1, _), (4, _)] ?_
 refine Tri.seq ?_
 refine tR ?_
 refine sO rfl rfl (oV (v := at' (.slice (some (H.n, 0)) 10)) (H' := H.push (.cells 2 2 (edgeL.map (AT.int .i64)))) rfl ?_)
 refine sV rfl rfl rfl ?_
 show TrP 25 _ _ _ _
 refine tH [(0, _), (1, _), (4, _), (5, _)] ?_
 refine Tri.seq ?_
 refine tR ?_
 refine sV rfl rfl rfl ?_
 refine sO rfl rfl (oF rfl (fnOk_of Try.func12 (by decide) rfl) (Pick_ok n 24 _ (by omega) (by omega)) ?_)
 refine sV rfl rfl rfl ?_
 show TrP 25 _ _ _ _
 refine tH [(0, _), (1, _), (4, _), (5, _), (6, _)] ?_
 refine Tri.seq ?_
 refine Tri.block ?_
 refine Tri.seq ?_
 refine tR ?_
 refine sV rfl rfl rfl ?_
 refine sO rfl rfl (oP rfl (fun h12 => ?_) (fun h12 => ?_))
 ·
  refine sV rfl rfl rfl ?_
  show TrP 25 _ _ _ _
  refine tH [(0, _), (1, _), (4, _), (5, _), (6, _), (10, _)] ?_
  refine tT rfl ?_
  refine Tri.seq ?_
  refine tR ?_
  iterate 2 refine sV rfl rfl rfl ?_
  obtain ⟨v, hv⟩ : ∃ v, edgeL[pk n 24]? = some v := ⟨_, List.getElem?_eq_getElem (by (show pk n 24 < 10); omega)⟩
  refine sO rfl rfl (oIA (z := 1) (i := pk n 24) (n := 10) rfl rfl rfl rfl (by omega) ?_)
  refine sO rfl rfl (oLoad (x := .at (.int .i64 v)) rfl gG (part_at rfl rfl rfl (map_at hv)) ?_)
  refine sV rfl rfl rfl ?_
  show TrP 25 _ _ _ _
  refine tH [(0, _), (1, _), (4, _), (5, _), (6, _), (10, _)] ?_
  refine Tri.ret ?_
  refine ⟨trivial, _, rfl, ?_⟩
  exact ⟨kZ, rfl, _, rfl⟩
 ·
  refine sV rfl rfl rfl ?_
  show TrP 25 _ _ _ _
  refine tH [(0, _), (1, _), (4, _), (5, _), (6, _), (10, _)] ?_
  refine tF rfl ?_
  refine Tri.seq ?_
  refine tR ?_
  refine sV rfl rfl rfl ?_
  refine sO rfl rfl (oP rfl (fun h19 => ?_) (fun h19 => ?_))
  ·
   refine sV rfl rfl rfl ?_
   show TrP 25 _ _ _ _
   refine tH [(0, _), (1, _), (4, _), (5, _), (6, _), (10, _), (17, _)] ?_
   refine tT rfl ?_
   refine Tri.seq ?_
   refine tR ?_
   refine sV rfl rfl rfl ?_
   refine sO rfl rfl (oQuo rfl rfl (by omega) ?_)
   refine sO rfl rfl (oF rfl (fnOk_of Try.func12 (by decide) rfl) (Pick_ok _ 17 _ (by omega) (by omega)) ?_)
   iterate 2 refine sV rfl rfl rfl ?_
   show TrP 25 _ _ _ _
   refine tH [(0, _), (1, _), (4, _), (5, _), (6, _), (10, _), (17, _)] ?_
   refine Tri.ret ?_
   refine ⟨trivial, _, rfl, ?_⟩
   exact ⟨kZ, rfl, _, rfl⟩
  ·
   refine sV rfl rfl rfl ?_
   show TrP 25 _ _ _ _
   refine tH [(0, _), (1, _), (4, _), (5, _), (6, _), (10, _), (17, _)] ?_
   refine tF rfl ?_
   refine Tri.skip ?_
   show TrP 25 _ _ _ _
   refine tH [(0, _), (1, _), (4, _), (5, _), (6, _), (10, _), (17, _)] ?_
   refine Tri.seq ?_
   refine tR ?_
   iterate 2 refine sV rfl rfl rfl ?_
   show TrP 25 _ _ _ _
   refine tH [(0, _), (1, _), (4, _), (5, _), (6, _), (10, _), (17, _)] ?_
   refine Tri.ret ?_
   refine ⟨trivial, _, rfl, ?_⟩
   exact ⟨kZ, rfl, _, rfl⟩
theorem matP_one {pl : Plan} {p : Nat → Bool} {n0 i : Nat} {o : AObj} {H : Heap} (h : p i = true) : matP pl p n0 [(i, o)] H = H.set (n0 + pl.rk.getD i 0) o := by simp [matP, h]
def mOf (n : Int) : Nat := pk (IntKind.i64.wrap (n.tdiv 16)) 1000
theorem ab_of {i : Nat} {s : List UInt8} (h : [[97], [98]][i]? = some s) : s = [97] ∨ s = [98] := by
  match i, h with
  | 0, h => cases h; exact .inl rfl
  | 1, h => cases h; exact .inr rfl
theorem op_of {i : Nat} {o : Int} (h : [(20 : Int), 21][i]? = some o) : o = 20 ∨ o = 21 := by
  match i, h with
  | 0, h => cases h; exact .inl rfl
  | 1, h => cases h; exact .inr rfl

set_option maxHeartbeats 1000000 in
theorem Expr_ok (f : Nat) : ∀ (k deep : Nat), deep + k = 4 → ∀ (x : Nat) (l : List Int) (lp : Nat) (H : Heap), RdR H x l lp → Sim Try.prog 20 [at' (.ptr (some (x, 0))), at' (.int .i64 f), at' (.int .i64 deep)] H (fun u G => ∃ e cs l', u = .one (.agg cs) ∧ LX (G.fr H.n) e cs ∧ GX (nmL f) k e ∧ RdR G x l' lp ∧ l'.length ≤ l.length ∧ Kp [x] H G) := by
 intro k
 induction k using Nat.strongRecOn
 rename_i k ih
 intro deep hd x l lp H hR
 have hxl := hR.lt
 have hnl := nmL_pos f
 refine Sim.of_tri Try.func20 rfl ?_
 show TrP 115 _ _ _ _
 refine Tri.seq ?_
 refine tR ?_
 refine sO rfl rfl (oAlloc (cs := [.int .i64 0, .int .i64 0, .str [], .int .i64 0, .slice none 0]) rfl rfl ?_)
 show TrP 115 _ _ _ _
 refine tH [(0, _), (1, _), (2, _), (6, _)] ?_
 refine Tri.seq ?_
 refine tR ?_
 refine sV rfl rfl rfl ?_
 refine sO rfl rfl (oC rfl (fnOk_of Try.func18 (by decide) rfl) (Next_ok x _ _ _ (hR.kp (own := []) (Kp.push Kp.refl) (by simp))) ?_)
 rintro u G1 ⟨rfl, hR1, hk1, hn1⟩
 have c1 : G1.get H.n = some (.cells 24 1 zeX) := hk1.g _ _ Heap.push_new rfl (by simp; omega)
 have K1 : Kp [x] H G1 := Kp.own2 (Kp.push Kp.refl) hk1
 have hnA1 := Heap.get_lt c1
 refine sV rfl rfl rfl ?_
 show TrP 115 _ _ _ _
 refine tH [(0, _), (1, _), (2, _), (6, _), (7, _)] ?_
 refine Tri.seq ?_
 refine tR ?_
 refine sV rfl rfl rfl ?_
 refine sO rfl rfl (oC rfl (fnOk_of Try.func43 (by decide) rfl) (names_ok _ _) ?_)
 rintro u G2 ⟨q, rfl, hq, hqn, hk2⟩
 have c2 := hk2.get c1 rfl
 have hR2 := hR1.kp hk2 (by simp)
 have K2 := K1.trans0 hk2
 have hnA2 := Heap.get_lt c2
 have hln : l.tail.length ≤ l.length := by rw [List.length_tail]; omega
 refine sV rfl rfl rfl ?_
 show TrP 115 _ _ _ _
 refine tH [(0, _), (1, _), (2, _), (6, _), (7, _), (8, _)] ?_
 refine Tri.seq ?_
 refine tR ?_
 refine sV rfl rfl rfl ?_
 refine sO rfl rfl (oF rfl (fnOk_of Try.func12 (by decide) rfl) (Pick_ok _ 16 _ (by omega) (by omega)) ?_)
 refine sV rfl rfl rfl ?_
 show TrP 115 _ _ _ _
 refine tH [(0, _), (1, _), (2, _), (6, _), (7, _), (8, _), (9, _)] ?_
 refine Tri.seq ?_
 refine tR ?_
 refine sV rfl rfl rfl ?_
 refine sO rfl rfl (oQuo rfl rfl (by omega) ?_)
 refine sO rfl rfl (oF rfl (fnOk_of Try.func12 (by decide) rfl) (Pick_ok _ 1000 _ (by omega) (by omega)) ?_)
 refine sO rfl rfl (oW (at' (.int .i64 (mOf (l.headD 0) : Nat))) rfl rfl ?_)
 show TrP 115 _ _ _ _
 refine tH [(0, _), (1, _), (2, _), (6, _), (7, _), (8, _), (9, _), (10, _)] ?_
 refine Tri.seq ?_
 refine Tri.block ?_
 refine Tri.seq ?_
 refine tR ?_
 refine sV rfl rfl rfl ?_
 refine sO rfl rfl (oP rfl (fun h22 => ?_) (fun h22 => ?_))
 ·
  refine sV rfl rfl rfl ?_
  iterate 2 refine sN rfl rfl ?_
  iterate 2 refine sV rfl rfl rfl ?_
  show TrP 115 _ _ _ _
  refine tH [(0, _), (1, _), (2, _), (6, _), (7, _), (8, _), (9, _), (10, _), (20, _)] ?_
  refine tT rfl ?_
  refine Tri.seq ?_
  refine Tri.seq ?_
  refine tR ?_
  refine sV rfl rfl rfl ?_
  refine sO rfl rfl (oRem rfl rfl (by omega) ?_)
  refine sO rfl rfl (oE rfl (fun h29 => ?_) (fun h29 => ?_))
  ·
   refine sV rfl rfl rfl ?_
   iterate 6 refine sN rfl rfl ?_
   refine sV rfl rfl rfl ?_
   show TrP 115 _ _ _ _
   refine tH [(0, _), (1, _), (2, _), (6, _), (7, _), (8, _), (9, _), (10, _), (20, _), (37, _)] ?_
   refine tT rfl ?_
   refine Tri.seq ?_
   refine tR ?_
   iterate 4 refine sV rfl rfl rfl ?_
   refine sO rfl rfl (oRemN (n := mOf (l.headD 0)) (m := (nmL f).length) rfl rfl hnl ?_)
   obtain ⟨s, hs⟩ : ∃ s, (nmL f)[mOf (l.headD 0) % (nmL f).length]? = some s := ⟨_, List.getElem?_eq_getElem (Nat.mod_lt _ hnl)⟩
   refine sO rfl rfl (oIA (z := 1) (i := mOf (l.headD 0) % (nmL f).length) (n := (nmL f).length) rfl rfl rfl rfl (Nat.mod_lt _ hnl) ?_)
   refine sO rfl rfl (oLoad (x := .at (.str s)) rfl gG (part_at rfl rfl rfl (map_at hs)) ?_)
   refine sO rfl rfl (oW (.one (.agg [_, .int .i64 0, _, .int .i64 0, .slice none 0])) rfl rfl ?_)
   refine sO rfl rfl (oStore (n := 5) (cs' := [_, _, _, _, _]) rfl rfl rfl gG rfl (Nat.le_of_ble_eq_true rfl) rfl rfl ?_)
   show TrP 115 _ _ _ _
   refine tH [(0, _), (1, _), (2, _), (6, _), (7, _), (8, _), (9, _), (10, _), (20, _), (37, _)] ?_
   refine Tri.ret ?_
   refine ⟨trivial, _, (resA_cell (x := .agg [_, _, _, _, _]) rfl gG rfl rfl), ?_⟩
   exact ⟨.mk 2 0 s 0 [], _, l.tail, rfl, LX_iff.2 ⟨none, rfl, RowQ.nil⟩, .var (List.mem_of_getElem? hs), hR2.kp (own := [H.n]) kQ (by intro d hd; simp only [List.mem_cons, List.not_mem_nil, or_false] at hd; (try simp only [Heap.n_push, Heap.n_set]); omega), hln, kP⟩
  ·
   iterate 2 refine sV rfl rfl rfl ?_
   refine sO rfl rfl (oP rfl (fun h32 => ?_) (fun h32 => ?_))
   ·
    iterate 2 refine sV rfl rfl rfl ?_
    refine sO rfl rfl (oP rfl (fun h35 => ?_) (fun h35 => ?_))
    ·
     iterate 2 refine sV rfl rfl rfl ?_
     show TrP 115 _ _ _ _
     refine tH [(0, _), (1, _), (2, _), (6, _), (7, _), (8, _), (9, _), (10, _), (20, _), (37, _)] ?_
     refine tT rfl ?_
     refine Tri.seq ?_
     refine tR ?_
     iterate 4 refine sV rfl rfl rfl ?_
     refine sO rfl rfl (oRemN (n := mOf (l.headD 0)) (m := (nmL f).length) rfl rfl hnl ?_)
     obtain ⟨s, hs⟩ : ∃ s, (nmL f)[mOf (l.headD 0) % (nmL f).length]? = some s := ⟨_, List.getElem?_eq_getElem (Nat.mod_lt _ hnl)⟩
     refine sO rfl rfl (oIA (z := 1) (i := mOf (l.headD 0) % (nmL f).length) (n := (nmL f).length) rfl rfl rfl rfl (Nat.mod_lt _ hnl) ?_)
     refine sO rfl rfl (oLoad (x := .at (.str s)) rfl gG (part_at rfl rfl rfl (map_at hs)) ?_)
     refine sO rfl rfl (oW (.one (.agg [_, .int .i64 0, _, .int .i64 0, .slice none 0])) rfl rfl ?_)
     refine sO rfl rfl (oStore (n := 5) (cs' := [_, _, _, _, _]) rfl rfl rfl gG rfl (Nat.le_of_ble_eq_true rfl) rfl rfl ?_)
     show TrP 115 _ _ _ _
     refine tH [(0, _), (1, _), (2, _), (6, _), (7, _), (8, _), (9, _), (10, _), (20, _), (37, _)] ?_
     refine Tri.ret ?_
     refine ⟨trivial, _, (resA_cell (x := .agg [_, _, _, _, _]) rfl gG rfl rfl), ?_⟩
     exact ⟨.mk 2 0 s 0 [], _, l.tail, rfl, LX_iff.2 ⟨none, rfl, RowQ.nil⟩, .var (List.mem_of_getElem? hs), hR2.kp (own := [H.n]) kQ (by intro d hd; simp only [List.mem_cons, List.not_mem_nil, or_false] at hd; (try simp only [Heap.n_push, Heap.n_set]); omega), hln, kP⟩
    ·
     iterate 2 refine sV rfl rfl rfl ?_
     show TrP 115 _ _ _ _
     refine tH [(0, _), (1, _), (2, _), (6, _), (7, _), (8, _), (9, _), (10, _), (20, _), (37, _)] ?_
     refine tF rfl ?_
     refine Tri.skip ?_
     show TrP 115 _ _ _ _
     refine tH [(0, _), (1, _), (2, _), (6, _), (7, _), (8, _), (9, _), (10, _), (20, _), (37, _)] ?_
     refine Tri.seq ?_
     refine tR ?_
     iterate 2 refine sV rfl rfl rfl ?_
     refine sO rfl rfl (oC rfl (fnOk_of Try.func44 (by decide) rfl) (Word_ok _ _ _) ?_)
     rintro u G ⟨⟨wv, rfl⟩, rfl⟩
     refine sO rfl rfl (oW (.one (.agg [_, _, .str [], .int .i64 0, .slice none 0])) rfl rfl ?_)
     refine sO rfl rfl (oStore (n := 5) (cs' := [_, _, _, _, _]) rfl rfl rfl gG rfl (Nat.le_of_ble_eq_true rfl) rfl rfl ?_)
     show TrP 115 _ _ _ _
     refine tH [(0, _), (1, _), (2, _), (6, _), (7, _), (8, _), (9, _), (10, _), (20, _), (37, _)] ?_
     refine Tri.ret ?_
     refine ⟨trivial, _, (resA_cell (x := .agg [_, _, _, _, _]) rfl gG rfl rfl), ?_⟩
     exact ⟨.mk 1 wv [] 0 [], _, l.tail, rfl, LX_iff.2 ⟨none, rfl, RowQ.nil⟩, .num, hR2.kp (own := [H.n]) kQ (by intro d hd; simp only [List.mem_cons, List.not_mem_nil, or_false] at hd; (try simp only [Heap.n_push, Heap.n_set]); omega), hln, kP⟩
   ·
    refine sV rfl rfl rfl ?_
    iterate 2 refine sN rfl rfl ?_
    iterate 2 refine sV rfl rfl rfl ?_
    show TrP 115 _ _ _ _
    refine tH [(0, _), (1, _), (2, _), (6, _), (7, _), (8, _), (9, _), (10, _), (20, _), (37, _)] ?_
    refine tF rfl ?_
    refine Tri.skip ?_
    show TrP 115 _ _ _ _
    refine tH [(0, _), (1, _), (2, _), (6, _), (7, _), (8, _), (9, _), (10, _), (20, _), (37, _)] ?_
    refine Tri.seq ?_
    refine tR ?_
    iterate 2 refine sV rfl rfl rfl ?_
    refine sO rfl rfl (oC rfl (fnOk_of Try.func44 (by decide) rfl) (Word_ok _ _ _) ?_)
    rintro u G ⟨⟨wv, rfl⟩, rfl⟩
    refine sO rfl rfl (oW (.one (.agg [_, _, .str [], .int .i64 0, .slice none 0])) rfl rfl ?_)
    refine sO rfl rfl (oStore (n := 5) (cs' := [_, _, _, _, _]) rfl rfl rfl gG rfl (Nat.le_of_ble_eq_true rfl) rfl rfl ?_)
    show TrP 115 _ _ _ _
    refine tH [(0, _), (1, _), (2, _), (6, _), (7, _), (8, _), (9, _), (10, _), (20, _), (37, _)] ?_
    refine Tri.ret ?_
    refine ⟨trivial, _, (resA_cell (x := .agg [_, _, _, _, _]) rfl gG rfl rfl), ?_⟩
    exact ⟨.mk 1 wv [] 0 [], _, l.tail, rfl, LX_iff.2 ⟨none, rfl, RowQ.nil⟩, .num, hR2.kp (own := [H.n]) kQ (by intro d hd; simp only [List.mem_cons, List.not_mem_nil, or_false] at hd; (try simp only [Heap.n_push, Heap.n_set]); omega), hln, kP⟩
 ·
  iterate 2 refine sV rfl rfl rfl ?_
  refine sO rfl rfl (oP rfl (fun h25 => ?_) (fun h25 => ?_))
  ·
   iterate 2 refine sV rfl rfl rfl ?_
   show TrP 115 _ _ _ _
   refine tH [(0, _), (1, _), (2, _), (6, _), (7, _), (8, _), (9, _), (10, _), (20, _)] ?_
   refine tT rfl ?_
   refine Tri.seq ?_
   refine Tri.seq ?_
   refine tR ?_
   refine sV rfl rfl rfl ?_
   refine sO rfl rfl (oRem rfl rfl (by omega) ?_)
   refine sO rfl rfl (oE rfl (fun h29 => ?_) (fun h29 => ?_))
   ·
    refine sV rfl rfl rfl ?_
    iterate 6 refine sN rfl rfl ?_
    refine sV rfl rfl rfl ?_
    show TrP 115 _ _ _ _
    refine tH [(0, _), (1, _), (2, _), (6, _), (7, _), (8, _), (9, _), (10, _), (20, _), (37, _)] ?_
    refine tT rfl ?_
    refine Tri.seq ?_
    refine tR ?_
    iterate 4 refine sV rfl rfl rfl ?_
    refine sO rfl rfl (oRemN (n := mOf (l.headD 0)) (m := (nmL f).length) rfl rfl hnl ?_)
    obtain ⟨s, hs⟩ : ∃ s, (nmL f)[mOf (l.headD 0) % (nmL f).length]? = some s := ⟨_, List.getElem?_eq_getElem (Nat.mod_lt _ hnl)⟩
    refine sO rfl rfl (oIA (z := 1) (i := mOf (l.headD 0) % (nmL f).length) (n := (nmL f).length) rfl rfl rfl rfl (Nat.mod_lt _ hnl) ?_)
    refine sO rfl rfl (oLoad (x := .at (.str s)) rfl gG (part_at rfl rfl rfl (map_at hs)) ?_)
    refine sO rfl rfl (oW (.one (.agg [_, .int .i64 0, _, .int .i64 0, .slice none 0])) rfl rfl ?_)
    refine sO rfl rfl (oStore (n := 5) (cs' := [_, _, _, _, _]) rfl rfl rfl gG rfl (Nat.le_of_ble_eq_true rfl) rfl rfl ?_)
    show TrP 115 _ _ _ _
    refine tH [(0, _), (1, _), (2, _), (6, _), (7, _), (8, _), (9, _), (10, _), (20, _), (37, _)] ?_
    refine Tri.ret ?_
    refine ⟨trivial, _, (resA_cell (x := .agg [_, _, _, _, _]) rfl gG rfl rfl), ?_⟩
    exact ⟨.mk 2 0 s 0 [], _, l.tail, rfl, LX_iff.2 ⟨none, rfl, RowQ.nil⟩, .var (List.mem_of_getElem? hs), hR2.kp (own := [H.n]) kQ (by intro d hd; simp only [List.mem_cons, List.not_mem_nil, or_false] at hd; (try simp only [Heap.n_push, Heap.n_set]); omega), hln, kP⟩
   ·
    iterate 2 refine sV rfl rfl rfl ?_
    refine sO rfl rfl (oP rfl (fun h32 => ?_) (fun h32 => ?_))
    ·
     iterate 2 refine sV rfl rfl rfl ?_
     refine sO rfl rfl (oP rfl (fun h35 => ?_) (fun h35 => ?_))
     ·
      iterate 2 refine sV rfl rfl rfl ?_
      show TrP 115 _ _ _ _
      refine tH [(0, _), (1, _), (2, _), (6, _), (7, _), (8, _), (9, _), (10, _), (20, _), (37, _)] ?_
      refine tT rfl ?_
      refine Tri.seq ?_
      refine tR ?_
      iterate 4 refine sV rfl rfl rfl ?_
      refine sO rfl rfl (oRemN (n := mOf (l.headD 0)) (m := (nmL f).length) rfl rfl hnl ?_)
      obtain ⟨s, hs⟩ : ∃ s, (nmL f)[mOf (l.headD 0) % (nmL f).length]? = some s := ⟨_, List.getElem?_eq_getElem (Nat.mod_lt _ hnl)⟩
      refine sO rfl rfl (oIA (z := 1) (i := mOf (l.headD 0) % (nmL f).length) (n := (nmL f).length) rfl rfl rfl rfl (Nat.mod_lt _ hnl) ?_)
      refine sO rfl rfl (oLoad (x := .at (.str s)) rfl gG (part_at rfl rfl rfl (map_at hs)) ?_)
      refine sO rfl rfl (oW (.one (.agg [_, .int .i64 0, _, .int .i64 0, .slice none 0])) rfl rfl ?_)
      refine sO rfl rfl (oStore (n := 5) (cs' := [_, _, _, _, _]) rfl rfl rfl gG rfl (Nat.le_of_ble_eq_true rfl) rfl rfl ?_)
      show TrP 115 _ _ _ _
      refine tH [(0, _), (1, _), (2, _), (6, _), (7, _), (8, _), (9, _), (10, _), (20, _), (37, _)] ?_
      refine Tri.ret ?_
      refine ⟨trivial, _, (resA_cell (x := .agg [_, _, _, _, _]) rfl gG rfl rfl), ?_⟩
      exact ⟨.mk 2 0 s 0 [], _, l.tail, rfl, LX_iff.2 ⟨none, rfl, RowQ.nil⟩, .var (List.mem_of_getElem? hs), hR2.kp (own := [H.n]) kQ (by intro d hd; simp only [List.mem_cons, List.not_mem_nil, or_false] at hd; (try simp only [Heap.n_push, Heap.n_set]); omega), hln, kP⟩
     ·
      iterate 2 refine sV rfl rfl rfl ?_
      show TrP 115 _ _ _ _
      refine tH [(0, _), (1, _), (2, _), (6, _), (7, _), (8, _), (9, _), (10, _), (20, _), (37, _)] ?_
      refine tF rfl ?_
      refine Tri.skip ?_
      show TrP 115 _ _ _ _
      refine tH [(0, _), (1, _), (2, _), (6, _), (7, _), (8, _), (9, _), (10, _), (20, _), (37, _)] ?_
      refine Tri.seq ?_
      refine tR ?_
      iterate 2 refine sV rfl rfl rfl ?_
      refine sO rfl rfl (oC rfl (fnOk_of Try.func44 (by decide) rfl) (Word_ok _ _ _) ?_)
      rintro u G ⟨⟨wv, rfl⟩, rfl⟩
      refine sO rfl rfl (oW (.one (.agg [_, _, .str [], .int .i64 0, .slice none 0])) rfl rfl ?_)
      refine sO rfl rfl (oStore (n := 5) (cs' := [_, _, _, _, _]) rfl rfl rfl gG rfl (Nat.le_of_ble_eq_true rfl) rfl rfl ?_)
      show TrP 115 _ _ _ _
      refine tH [(0, _), (1, _), (2, _), (6, _), (7, _), (8, _), (9, _), (10, _), (20, _), (37, _)] ?_
      refine Tri.ret ?_
      refine ⟨trivial, _, (resA_cell (x := .agg [_, _, _, _, _]) rfl gG rfl rfl), ?_⟩
      exact ⟨.mk 1 wv [] 0 [], _, l.tail, rfl, LX_iff.2 ⟨none, rfl, RowQ.nil⟩, .num, hR2.kp (own := [H.n]) kQ (by intro d hd; simp only [List.mem_cons, List.not_mem_nil, or_false] at hd; (try simp only [Heap.n_push, Heap.n_set]); omega), hln, kP⟩
    ·
     refine sV rfl rfl rfl ?_
     iterate 2 refine sN rfl rfl ?_
     iterate 2 refine sV rfl rfl rfl ?_
     show TrP 115 _ _ _ _
     refine tH [(0, _), (1, _), (2, _), (6, _), (7, _), (8, _), (9, _), (10, _), (20, _), (37, _)] ?_
     refine tF rfl ?_
     refine Tri.skip ?_
     show TrP 115 _ _ _ _
     refine tH [(0, _), (1, _), (2, _), (6, _), (7, _), (8, _), (9, _), (10, _), (20, _), (37, _)] ?_
     refine Tri.seq ?_
     refine tR ?_
     iterate 2 refine sV rfl rfl rfl ?_
     refine sO rfl rfl (oC rfl (fnOk_of Try.func44 (by decide) rfl) (Word_ok _ _ _) ?_)
     rintro u G ⟨⟨wv, rfl⟩, rfl⟩
     refine sO rfl rfl (oW (.one (.agg [_, _, .str [], .int .i64 0, .slice none 0])) rfl rfl ?_)
     refine sO rfl rfl (oStore (n := 5) (cs' := [_, _, _, _, _]) rfl rfl rfl gG rfl (Nat.le_of_ble_eq_true rfl) rfl rfl ?_)
     show TrP 115 _ _ _ _
     refine tH [(0, _), (1, _), (2, _), (6, _), (7, _), (8, _), (9, _), (10, _), (20, _), (37, _)] ?_
     refine Tri.ret ?_
     refine ⟨trivial, _, (resA_cell (x := .agg [_, _, _, _, _]) rfl gG rfl rfl), ?_⟩
     exact ⟨.mk 1 wv [] 0 [], _, l.tail, rfl, LX_iff.2 ⟨none, rfl, RowQ.nil⟩, .num, hR2.kp (own := [H.n]) kQ (by intro d hd; simp only [List.mem_cons, List.not_mem_nil, or_false] at hd; (try simp only [Heap.n_push, Heap.n_set]); omega), hln, kP⟩
  ·
   iterate 2 refine sV rfl rfl rfl ?_
   show TrP 115 _ _ _ _
   refine tH [(0, _), (1, _), (2, _), (6, _), (7, _), (8, _), (9, _), (10, _), (20, _)] ?_
   refine tF rfl ?_
   refine Tri.seq ?_
   refine tR ?_
   refine sV rfl rfl rfl ?_
   refine sO rfl rfl (oP rfl (fun h52 => ?_) (fun h52 => ?_))
   ·
    refine sV rfl rfl rfl ?_
    show TrP 115 _ _ _ _
    refine tH [(0, _), (1, _), (2, _), (6, _), (7, _), (8, _), (9, _), (10, _), (20, _), (50, _)] ?_
    refine tT rfl ?_
    refine Tri.seq ?_
    refine Tri.drawn2 mixed eqsOk (eqs := eqs) ⟨[0, 0, 2, 7, 15, 0, 0, 0, 128, 480, 992, 2047, 4095], [0, 0, 0, 0, 0, 0, 0, 0, 0, 0, 1, 0, 0], 2, [0, 1, 2, 3, 4, 5, 6, 7, 8, 9, 10, 11, 12]⟩ (by decide +kernel) rfl ?_
    refine dM rfl rfl rfl rfl (obj := .cells 9 2 [.str [97], .str [98]]) (v := at' (.slice (some (G2.n + 0, 0)) 2)) rfl ?_
    refine dL rfl rfl rfl rfl (oV rfl ?_)
    refine dL rfl rfl rfl rfl (oRemN (n := mOf (l.headD 0)) (m := 2) rfl rfl (by decide) ?_)
    obtain ⟨s, hs⟩ : ∃ s, ([[97], [98]] : List (List UInt8))[mOf (l.headD 0) % 2]? = some s := ⟨_, List.getElem?_eq_getElem (Nat.mod_lt _ (by decide))⟩
    refine dL rfl rfl rfl rfl (oIA (z := 1) (i := mOf (l.headD 0) % 2) (n := 2) rfl rfl rfl rfl (Nat.mod_lt _ (by decide)) ?_)
    refine dRm (Heap.set _ (_ + 0) _) rfl rfl rfl rfl rfl (op_load_at (x := .at (.str s)) (cs := [[97], [98]].map AT.str) rfl (show (Heap.set ((G2.push .dead).push .dead) (G2.n + 0) (.cells 9 2 [.str [97], .str [98]])).get (G2.n + 0) = _ from Heap.set_newl lL) (part_at rfl rfl rfl (map_at hs))) ?_
    refine dL rfl rfl rfl rfl (oV rfl ?_)
    refine dL rfl rfl rfl rfl (oV rfl ?_)
    refine dL rfl rfl rfl rfl (oV rfl ?_)
    refine dL rfl rfl rfl rfl (oAdd (m := 1) rfl (by omega) ?_)
    refine dCm (Heap.push (Heap.push _ .dead) .dead) (.keep rfl .nil) (.keep rfl .nil) rfl rfl rfl rfl rfl (oC rfl (fnOk_of Try.func20 (by decide) rfl) (ih (k - 1) (by omega) (deep + 1) (by omega) x _ lp _ (hR2.kp (own := []) kZ (by simp))) ?_)
    rintro u G3 ⟨e3, cs3, l3, rfl, hX3, hG3, hR3, hl3, hk3⟩
    obtain ⟨p3, rfl, _⟩ := hX3.out
    have c3 : G3.get H.n = some (.cells 24 1 zeX) := hk3.g _ _ gG rfl (by simp; omega)
    have K3 : Kp [x] H G3 := Kp.own2 kP hk3
    have hn3 := hk3.n
    (try simp only [Heap.n_push, Heap.n_set] at hn3)
    have hnA3 := Heap.get_lt c3
    refine ⟨⟨.inr (⟨_, rfl, (by dsimp only; rw [matP_one rfl]; exact op_load_at (x := .at (.str s)) (cs := [[97], [98]].map AT.str) rfl (Heap.set_newl (show G2.n + 0 < _ by omega)) (part_at rfl rfl rfl (map_at hs)))⟩), trivial⟩, ?_⟩
    refine dM rfl rfl rfl rfl rfl ?_
    refine dL rfl rfl rfl rfl (oW (.one (.agg [_, .int .i64 0, _, .int .i64 0, _])) rfl rfl ?_)
    refine dCm (Heap.set (Heap.set G3 (_ + 0) _) (_ + 1) _) (.drop rfl (.drop rfl .nil)) (.drop rfl .nil) rfl rfl rfl rfl rfl (oStore (n := 5) (cs' := [_, _, _, _, _]) rfl rfl rfl gG rfl (Nat.le_of_ble_eq_true rfl) rfl rfl ?_)
    refine ⟨⟨.inl rfl, trivial⟩, ?_⟩
    refine dE0 ?_
    show TrP 115 _ _ _ _
    refine tH [(0, _), (1, _), (2, _), (6, _), (7, _), (8, _), (9, _), (10, _), (20, _), (50, _)] ?_
    refine Tri.ret ?_
    refine ⟨trivial, _, (resA_cell (x := .agg [_, _, _, _, _]) rfl gG rfl rfl), ?_⟩
    obtain ⟨k', rfl⟩ : ∃ k', k = k' + 1 := ⟨k - 1, by omega⟩
    exact ⟨.mk 3 0 s 0 [e3], _, l3, rfl, LX_iff.2 ⟨_, rfl, rowX1 (Heap.fr_get gG lE) (hX3.kp (Kp.fr (own := [G2.n + 1, G2.n + 0, H.n]) kQ (by intro d hd; simp only [List.mem_cons, List.not_mem_nil, or_false] at hd; (try simp only [Heap.n_push, Heap.n_set]); omega) lE))⟩, .idx (ab_of hs) hG3, hR3.kp (own := [G2.n + 1, G2.n + 0, H.n]) kQ (by intro d hd; simp only [List.mem_cons, List.not_mem_nil, or_false] at hd; (try simp only [Heap.n_push, Heap.n_set]); omega), (by rw [List.length_tail] at hl3; omega), kP⟩
   ·
    refine sV rfl rfl rfl ?_
    show TrP 115 _ _ _ _
    refine tH [(0, _), (1, _), (2, _), (6, _), (7, _), (8, _), (9, _), (10, _), (20, _), (50, _)] ?_
    refine tF rfl ?_
    refine Tri.seq ?_
    refine tR ?_
    refine sV rfl rfl rfl ?_
    refine sO rfl rfl (oP rfl (fun h67 => ?_) (fun h67 => ?_))
    ·
     refine sV rfl rfl rfl ?_
     show TrP 115 _ _ _ _
     refine tH [(0, _), (1, _), (2, _), (6, _), (7, _), (8, _), (9, _), (10, _), (20, _), (50, _), (65, _)] ?_
     refine tT rfl ?_
     refine Tri.seq ?_
     refine tR ?_
     iterate 3 refine sV rfl rfl rfl ?_
     refine sO rfl rfl (oAdd (m := 1) rfl (by omega) ?_)
     refine sO rfl rfl (oC rfl (fnOk_of Try.func20 (by decide) rfl) (ih (k - 1) (by omega) (deep + 1) (by omega) x _ lp _ hR2) ?_)
     rintro u G3 ⟨e3, cs3, l3, rfl, hX3, hG3, hR3, hl3, hk3⟩
     obtain ⟨p3, rfl, _⟩ := hX3.out
     have c3 : G3.get H.n = some (.cells 24 1 zeX) := hk3.g _ _ gG rfl (by simp; omega)
     have K3 : Kp [x] H G3 := Kp.own2 kP hk3
     have hn3 := hk3.n
     (try simp only [Heap.n_push, Heap.n_set] at hn3)
     have hnA3 := Heap.get_lt c3
     have hX3 := hX3.kp (Kp.fr (n0 := H.n + 1) (own := []) Kp.refl (by simp) lE)
     iterate 3 refine sV rfl rfl rfl ?_
     refine sO rfl rfl (oAdd (m := 1) rfl (by omega) ?_)
     refine sO rfl rfl (oC rfl (fnOk_of Try.func20 (by decide) rfl) (ih (k - 1) (by omega) (deep + 1) (by omega) x _ lp _ hR3) ?_)
     rintro u G4 ⟨e4, cs4, l4, rfl, hX4, hG4, hR4, hl4, hk4⟩
     obtain ⟨p4, rfl, _⟩ := hX4.out
     have c4 : G4.get H.n = some (.cells 24 1 zeX) := hk4.g _ _ gG rfl (by simp; omega)
     have K4 : Kp [x] H G4 := Kp.own2 kP hk4
     have hn4 := hk4.n
     (try simp only [Heap.n_push, Heap.n_set] at hn4)
     have hnA4 := Heap.get_lt c4
     have hX4 := hX4.kp (Kp.fr (n0 := H.n + 1) (own := []) Kp.refl (by simp) lE)
     have hX3 := hX3.kp (Kp.fr (own := [x]) hk4 (by intro d hd; simp only [List.mem_cons, List.not_mem_nil, or_false] at hd; (try simp only [Heap.n_push, Heap.n_set]); omega) (Nat.le_refl _))
     iterate 3 refine sV rfl rfl rfl ?_
     refine sO rfl rfl (oAdd (m := 1) rfl (by omega) ?_)
     refine sO rfl rfl (oC rfl (fnOk_of Try.func20 (by decide) rfl) (ih (k - 1) (by omega) (deep + 1) (by omega) x _ lp _ hR4) ?_)
     rintro u G5 ⟨e5, cs5, l5, rfl, hX5, hG5, hR5, hl5, hk5⟩
     obtain ⟨p5, rfl, _⟩ := hX5.out
     have c5 : G5.get H.n = some (.cells 24 1 zeX) := hk5.g _ _ gG rfl (by simp; omega)
     have K5 : Kp [x] H G5 := Kp.own2 kP hk5
     have hn5 := hk5.n
     (try simp only [Heap.n_push, Heap.n_set] at hn5)
     have hnA5 := Heap.get_lt c5
     have hX5 := hX5.kp (Kp.fr (n0 := H.n + 1) (own := []) Kp.refl (by simp) lE)
     have hX3 := hX3.kp (Kp.fr (own := [x]) hk5 (by intro d hd; simp only [List.mem_cons, List.not_mem_nil, or_false] at hd; (try simp only [Heap.n_push, Heap.n_set]); omega) (Nat.le_refl _))
     have hX4 := hX4.kp (Kp.fr (own := [x]) hk5 (by intro d hd; simp only [List.mem_cons, List.not_mem_nil, or_false] at hd; (try simp only [Heap.n_push, Heap.n_set]); omega) (Nat.le_refl _))
     refine sO rfl rfl (oB35 rfl rfl rfl rfl rfl rfl rfl ?_)
     refine sO rfl rfl (oW (.one (.agg [_, .int .i64 0, .str [], .int .i64 0, _])) rfl rfl ?_)
     refine sO rfl rfl (oStore (n := 5) (cs' := [_, _, _, _, _]) rfl rfl rfl gG rfl (Nat.le_of_ble_eq_true rfl) rfl rfl ?_)
     show TrP 115 _ _ _ _
     refine tH [(0, _), (1, _), (2, _), (6, _), (7, _), (8, _), (9, _), (10, _), (20, _), (50, _), (65, _)] ?_
     refine Tri.ret ?_
     refine ⟨trivial, _, (resA_cell (x := .agg [_, _, _, _, _]) rfl gG rfl rfl), ?_⟩
     obtain ⟨k', rfl⟩ : ∃ k', k = k' + 1 := ⟨k - 1, by omega⟩
     exact ⟨.mk 5 0 [] 0 [e3, e4, e5], _, l5, rfl, LX_iff.2 ⟨_, rfl, rowX3 (Heap.fr_get gG lE) (hX3.kp (Kp.fr (own := [H.n]) kQ (by intro d hd; simp only [List.mem_cons, List.not_mem_nil, or_false] at hd; (try simp only [Heap.n_push, Heap.n_set]); omega) lE)) (hX4.kp (Kp.fr (own := [H.n]) kQ (by intro d hd; simp only [List.mem_cons, List.not_mem_nil, or_false] at hd; (try simp only [Heap.n_push, Heap.n_set]); omega) lE)) (hX5.kp (Kp.fr (own := [H.n]) kQ (by intro d hd; simp only [List.mem_cons, List.not_mem_nil, or_false] at hd; (try simp only [Heap.n_push, Heap.n_set]); omega) lE))⟩, .cond hG3 hG4 hG5, hR5.kp (own := [H.n]) kQ (by intro d hd; simp only [List.mem_cons, List.not_mem_nil, or_false] at hd; (try simp only [Heap.n_push, Heap.n_set]); omega), (by have := hl3; rw [List.length_tail] at this; omega), kP⟩
    ·
     refine sV rfl rfl rfl ?_
     show TrP 115 _ _ _ _
     refine tH [(0, _), (1, _), (2, _), (6, _), (7, _), (8, _), (9, _), (10, _), (20, _), (50, _), (65, _)] ?_
     refine tF rfl ?_
     refine Tri.seq ?_
     refine tR ?_
     refine sV rfl rfl rfl ?_
     refine sO rfl rfl (oP rfl (fun h87 => ?_) (fun h87 => ?_))
     ·
      refine sV rfl rfl rfl ?_
      show TrP 115 _ _ _ _
      refine tH [(0, _), (1, _), (2, _), (6, _), (7, _), (8, _), (9, _), (10, _), (20, _), (50, _), (65, _), (85, _)] ?_
      refine tT rfl ?_
      refine Tri.seq ?_
      refine Tri.drawn2 mixed eqsOk (eqs := eqs) ⟨[0, 0, 2, 7, 15, 0, 0, 0, 128, 480, 992, 2047, 4095], [0, 0, 0, 0, 0, 0, 0, 0, 0, 0, 1, 0, 0], 2, [0, 1, 2, 3, 4, 5, 6, 7, 8, 9, 10, 11, 12]⟩ (by decide +kernel) rfl ?_
      refine dM rfl rfl rfl rfl (obj := .cells 3 2 [.int .i64 20, .int .i64 21]) (v := at' (.slice (some (G2.n + 0, 0)) 2)) rfl ?_
      refine dL rfl rfl rfl rfl (oV rfl ?_)
      refine dL rfl rfl rfl rfl (oRemN (n := mOf (l.headD 0)) (m := 2) rfl rfl (by decide) ?_)
      obtain ⟨o, ho⟩ : ∃ o, [(20 : Int), 21][mOf (l.headD 0) % 2]? = some o := ⟨_, List.getElem?_eq_getElem (Nat.mod_lt _ (by decide))⟩
      refine dL rfl rfl rfl rfl (oIA (z := 1) (i := mOf (l.headD 0) % 2) (n := 2) rfl rfl rfl rfl (Nat.mod_lt _ (by decide)) ?_)
      refine dRm (Heap.set _ (_ + 0) _) rfl rfl rfl rfl rfl (op_load_at (x := .at (.int .i64 o)) (cs := [20, 21].map (AT.int .i64)) rfl (show (Heap.set ((G2.push .dead).push .dead) (G2.n + 0) (.cells 3 2 [.int .i64 20, .int .i64 21])).get (G2.n + 0) = _ from Heap.set_newl lL) (part_at rfl rfl rfl (map_at ho))) ?_
      refine dL rfl rfl rfl rfl (oV rfl ?_)
      refine dL rfl rfl rfl rfl (oV rfl ?_)
      refine dL rfl rfl rfl rfl (oV rfl ?_)
      refine dL rfl rfl rfl rfl (oAdd (m := 1) rfl (by omega) ?_)
      refine dCm (Heap.push (Heap.push _ .dead) .dead) (.keep rfl .nil) (.keep rfl .nil) rfl rfl rfl rfl rfl (oC rfl (fnOk_of Try.func20 (by decide) rfl) (ih (k - 1) (by omega) (deep + 1) (by omega) x _ lp _ (hR2.kp (own := []) kZ (by simp))) ?_)
      rintro u G3 ⟨e3, cs3, l3, rfl, hX3, hG3, hR3, hl3, hk3⟩
      obtain ⟨p3, rfl, _⟩ := hX3.out
      have c3 : G3.get H.n = some (.cells 24 1 zeX) := hk3.g _ _ gG rfl (by simp; omega)
      have K3 : Kp [x] H G3 := Kp.own2 kP hk3
      have hn3 := hk3.n
      (try simp only [Heap.n_push, Heap.n_set] at hn3)
      have hnA3 := Heap.get_lt c3
      refine ⟨⟨.inr (⟨_, rfl, (by dsimp only; rw [matP_one rfl]; exact op_load_at (x := .at (.int .i64 o)) (cs := [20, 21].map (AT.int .i64)) rfl (Heap.set_newl (show G2.n + 0 < _ by omega)) (part_at rfl rfl rfl (map_at ho)))⟩), trivial⟩, ?_⟩
      refine dM rfl rfl rfl rfl rfl ?_
      refine dL rfl rfl rfl rfl (oW (.one (.agg [_, .int .i64 0, .str [], _, _])) rfl rfl ?_)
      refine dCm (Heap.set (Heap.set G3 (_ + 0) _) (_ + 1) _) (.drop rfl (.drop rfl .nil)) (.drop rfl .nil) rfl rfl rfl rfl rfl (oStore (n := 5) (cs' := [_, _, _, _, _]) rfl rfl rfl gG rfl (Nat.le_of_ble_eq_true rfl) rfl rfl ?_)
      refine ⟨⟨.inl rfl, trivial⟩, ?_⟩
      refine dE0 ?_
      show TrP 115 _ _ _ _
      refine tH [(0, _), (1, _), (2, _), (6, _), (7, _), (8, _), (9, _), (10, _), (20, _), (50, _), (65, _), (85, _)] ?_
      refine Tri.ret ?_
      refine ⟨trivial, _, (resA_cell (x := .agg [_, _, _, _, _]) rfl gG rfl rfl), ?_⟩
      obtain ⟨k', rfl⟩ : ∃ k', k = k' + 1 := ⟨k - 1, by omega⟩
      exact ⟨.mk 4 0 [] o [e3], _, l3, rfl, LX_iff.2 ⟨_, rfl, rowX1 (Heap.fr_get gG lE) (hX3.kp (Kp.fr (own := [G2.n + 1, G2.n + 0, H.n]) kQ (by intro d hd; simp only [List.mem_cons, List.not_mem_nil, or_false] at hd; (try simp only [Heap.n_push, Heap.n_set]); omega) lE))⟩, .un (op_of ho) hG3, hR3.kp (own := [G2.n + 1, G2.n + 0, H.n]) kQ (by intro d hd; simp only [List.mem_cons, List.not_mem_nil, or_false] at hd; (try simp only [Heap.n_push, Heap.n_set]); omega), (by rw [List.length_tail] at hl3; omega), kP⟩
     ·
      refine sV rfl rfl rfl ?_
      show TrP 115 _ _ _ _
      refine tH [(0, _), (1, _), (2, _), (6, _), (7, _), (8, _), (9, _), (10, _), (20, _), (50, _), (65, _), (85, _)] ?_
      refine tF rfl ?_
      refine Tri.skip ?_
      show TrP 115 _ _ _ _
      refine tH [(0, _), (1, _), (2, _), (6, _), (7, _), (8, _), (9, _), (10, _), (20, _), (50, _), (65, _), (85, _)] ?_
      refine Tri.seq ?_
      refine tR ?_
      refine sV rfl rfl rfl ?_
      refine sO rfl rfl (oRemN (n := mOf (l.headD 0)) (m := 15) rfl rfl (by decide) ?_)
      refine sO rfl rfl (oAdd (n := 4) (m := mOf (l.headD 0) % 15) rfl (by omega) ?_)
      iterate 3 refine sV rfl rfl rfl ?_
      refine sO rfl rfl (oAdd (m := 1) rfl (by omega) ?_)
      refine sO rfl rfl (oC rfl (fnOk_of Try.func20 (by decide) rfl) (ih (k - 1) (by omega) (deep + 1) (by omega) x _ lp _ hR2) ?_)
      rintro u G3 ⟨e3, cs3, l3, rfl, hX3, hG3, hR3, hl3, hk3⟩
      obtain ⟨p3, rfl, _⟩ := hX3.out
      have c3 : G3.get H.n = some (.cells 24 1 zeX) := hk3.g _ _ gG rfl (by simp; omega)
      have K3 : Kp [x] H G3 := Kp.own2 kP hk3
      have hn3 := hk3.n
      (try simp only [Heap.n_push, Heap.n_set] at hn3)
      have hnA3 := Heap.get_lt c3
      have hX3 := hX3.kp (Kp.fr (n0 := H.n + 1) (own := []) Kp.refl (by simp) lE)
      iterate 3 refine sV rfl rfl rfl ?_
      refine sO rfl rfl (oAdd (m := 1) rfl (by omega) ?_)
      refine sO rfl rfl (oC rfl (fnOk_of Try.func20 (by decide) rfl) (ih (k - 1) (by omega) (deep + 1) (by omega) x _ lp _ hR3) ?_)
      rintro u G4 ⟨e4, cs4, l4, rfl, hX4, hG4, hR4, hl4, hk4⟩
      obtain ⟨p4, rfl, _⟩ := hX4.out
      have c4 : G4.get H.n = some (.cells 24 1 zeX) := hk4.g _ _ gG rfl (by simp; omega)
      have K4 : Kp [x] H G4 := Kp.own2 kP hk4
      have hn4 := hk4.n
      (try simp only [Heap.n_push, Heap.n_set] at hn4)
      have hnA4 := Heap.get_lt c4
      have hX4 := hX4.kp (Kp.fr (n0 := H.n + 1) (own := []) Kp.refl (by simp) lE)
      have hX3 := hX3.kp (Kp.fr (own := [x]) hk4 (by intro d hd; simp only [List.mem_cons, List.not_mem_nil, or_false] at hd; (try simp only [Heap.n_push, Heap.n_set]); omega) (Nat.le_refl _))
      refine sO rfl rfl (oB25 rfl rfl rfl rfl rfl rfl ?_)
      refine sO rfl rfl (oW (.one (.agg [_, .int .i64 0, .str [], _, _])) rfl rfl ?_)
      refine sO rfl rfl (oStore (n := 5) (cs' := [_, _, _, _, _]) rfl rfl rfl gG rfl (Nat.le_of_ble_eq_true rfl) rfl rfl ?_)
      show TrP 115 _ _ _ _
      refine tH [(0, _), (1, _), (2, _), (6, _), (7, _), (8, _), (9, _), (10, _), (20, _), (50, _), (65, _), (85, _)] ?_
      refine Tri.ret ?_
      refine ⟨trivial, _, (resA_cell (x := .agg [_, _, _, _, _]) rfl gG rfl rfl), ?_⟩
      obtain ⟨k', rfl⟩ : ∃ k', k = k' + 1 := ⟨k - 1, by omega⟩
      exact ⟨.mk 4 0 [] _ [e3, e4], _, l4, rfl, LX_iff.2 ⟨_, rfl, rowX2 (Heap.fr_get gG lE) (hX3.kp (Kp.fr (own := [H.n]) kQ (by intro d hd; simp only [List.mem_cons, List.not_mem_nil, or_false] at hd; (try simp only [Heap.n_push, Heap.n_set]); omega) lE)) (hX4.kp (Kp.fr (own := [H.n]) kQ (by intro d hd; simp only [List.mem_cons, List.not_mem_nil, or_false] at hd; (try simp only [Heap.n_push, Heap.n_set]); omega) lE))⟩, .bin (by have := Nat.mod_lt (mOf (l.headD 0)) (show 0 < 15 by decide); omega) hG3 hG4, hR4.kp (own := [H.n]) kQ (by intro d hd; simp only [List.mem_cons, List.not_mem_nil, or_false] at hd; (try simp only [Heap.n_push, Heap.n_set]); omega), (by have := hl3; rw [List.length_tail] at this; omega), kP⟩
end Go.Proofs.Ytceakkomleaibaa
