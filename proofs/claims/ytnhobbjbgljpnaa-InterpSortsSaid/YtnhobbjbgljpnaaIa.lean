/-
  CONTRACTS of the interpreter's words (printed by wip/tools/walk.py from wip/specs/intA.py). Written in this session.
-/
import Derived.Test.YtnhobbjbgljpnaaKd
namespace Go.Proofs.Ytnhobbjbgljpnaa
open Go.Ea
set_option maxRecDepth 100000
set_option linter.unusedVariables false
set_option linter.unusedSimpArgs false

/-- a / b toward 0, as the program has it. -/
def quoS (a b : Int) : Int := if b = 0 then 0 else if b = -1 then wrapA .i64 (0 - a) else IntKind.i64.wrap (a.tdiv b)
def truS (b : Bool) : Int := if b = true then 1 else 0
def notS (a : Int) : Int := IntKind.i64.wrap (BitVec.ofInt IntKind.i64.bits (-1) ^^^ BitVec.ofInt IntKind.i64.bits a).toNat
def unS (op a : Int) : Int := if op = 20 then wrapA .i64 (0 - a) else if op = 21 then notS a else 0

theorem quo_ok (a b : Int) (H : Heap) : Sim Try.prog 34 [at' (.int .i64 a), at' (.int .i64 b)] H (fun u G => u = at' (.int .i64 (quoS a b)) ∧ G = H) := by
 refine Sim.of_tri Try.func34 rfl ?_
 show TrP 15 _ _ _ _
 refine Tri.seq ?_
 refine tR ?_
 refine sV rfl rfl rfl ?_
 show TrP 15 _ _ _ _
 refine tH [(0, _), (1, _), (4, _)] ?_
 refine Tri.seq ?_
 refine Tri.seq ?_
 refine tR ?_
 refine sV rfl rfl rfl ?_
 show TrP 15 _ _ _ _
 refine tH [(0, _), (1, _), (4, _), (5, _)] ?_
 refine Tri.block ?_
 refine Tri.seq ?_
 refine tR ?_
 refine sO rfl rfl (oE rfl (fun h7 => ?_) (fun h7 => ?_))
 ·
  refine sV rfl rfl rfl ?_
  show TrP 15 _ _ _ _
  refine tH [(0, _), (1, _), (4, _), (5, _), (6, _)] ?_
  refine tT rfl ?_
  refine Tri.seq ?_
  refine tR ?_
  refine sV rfl rfl rfl ?_
  show TrP 15 _ _ _ _
  refine tH [(0, _), (1, _), (4, _), (5, _), (6, _)] ?_
  refine Tri.ret ?_
  refine ⟨trivial, _, rfl, ?_⟩
  unfold quoS; rw [if_pos h7]; exact ⟨rfl, rfl⟩
 ·
  refine sV rfl rfl rfl ?_
  show TrP 15 _ _ _ _
  refine tH [(0, _), (1, _), (4, _), (5, _), (6, _)] ?_
  refine tF rfl ?_
  refine Tri.seq ?_
  refine tR ?_
  refine sO rfl rfl (oE rfl (fun h9 => ?_) (fun h9 => ?_))
  ·
   refine sV rfl rfl rfl ?_
   show TrP 15 _ _ _ _
   refine tH [(0, _), (1, _), (4, _), (5, _), (6, _), (8, _)] ?_
   refine tT rfl ?_
   refine Tri.seq ?_
   refine tR ?_
   iterate 3 refine sV rfl rfl rfl ?_
   show TrP 15 _ _ _ _
   refine tH [(0, _), (1, _), (4, _), (5, _), (6, _), (8, _)] ?_
   refine Tri.ret ?_
   refine ⟨trivial, _, rfl, ?_⟩
   unfold quoS; rw [if_neg h7, if_pos h9]; exact ⟨rfl, rfl⟩
  ·
   refine sV rfl rfl rfl ?_
   show TrP 15 _ _ _ _
   refine tH [(0, _), (1, _), (4, _), (5, _), (6, _), (8, _)] ?_
   refine tF rfl ?_
   refine Tri.skip ?_
   show TrP 15 _ _ _ _
   refine tH [(0, _), (1, _), (4, _), (5, _), (6, _), (8, _)] ?_
   refine Tri.seq ?_
   refine tR ?_
   iterate 2 refine sV rfl rfl rfl ?_
   refine sO rfl rfl (oQuo rfl rfl h7 ?_)
   refine sV rfl rfl rfl ?_
   show TrP 15 _ _ _ _
   refine tH [(0, _), (1, _), (4, _), (5, _), (6, _), (8, _)] ?_
   refine Tri.ret ?_
   refine ⟨trivial, _, rfl, ?_⟩
   unfold quoS; rw [if_neg h7, if_neg h9]; exact ⟨rfl, rfl⟩
theorem truth_ok (b : Bool) (H : Heap) : Sim Try.prog 52 [at' (.bool b)] H (fun u G => u = at' (.int .i64 (truS b)) ∧ G = H) := by
 refine Sim.of_tri Try.func52 rfl ?_
 show TrP 4 _ _ _ _
 cases b
 ·
  refine Tri.seq ?_
  refine tR ?_
  refine sV rfl rfl rfl ?_
  show TrP 4 _ _ _ _
  refine tH [(0, _), (2, _)] ?_
  refine Tri.seq ?_
  refine Tri.seq ?_
  refine tR ?_
  refine sV rfl rfl rfl ?_
  show TrP 4 _ _ _ _
  refine tH [(0, _), (2, _), (3, _)] ?_
  refine tF rfl ?_
  refine Tri.skip ?_
  show TrP 4 _ _ _ _
  refine tH [(0, _), (2, _), (3, _)] ?_
  refine Tri.seq ?_
  refine tR ?_
  refine sV rfl rfl rfl ?_
  show TrP 4 _ _ _ _
  refine tH [(0, _), (2, _), (3, _)] ?_
  refine Tri.ret ?_
  refine ⟨trivial, _, rfl, ?_⟩
  exact ⟨rfl, rfl⟩
 ·
  refine Tri.seq ?_
  refine tR ?_
  refine sV rfl rfl rfl ?_
  show TrP 4 _ _ _ _
  refine tH [(0, _), (2, _)] ?_
  refine Tri.seq ?_
  refine Tri.seq ?_
  refine tR ?_
  refine sV rfl rfl rfl ?_
  show TrP 4 _ _ _ _
  refine tH [(0, _), (2, _), (3, _)] ?_
  refine tT rfl ?_
  refine Tri.seq ?_
  refine tR ?_
  refine sV rfl rfl rfl ?_
  show TrP 4 _ _ _ _
  refine tH [(0, _), (2, _), (3, _)] ?_
  refine Tri.ret ?_
  refine ⟨trivial, _, rfl, ?_⟩
  exact ⟨rfl, rfl⟩
theorem un_ok (op a : Int) (H : Heap) : Sim Try.prog 74 [at' (.int .i64 op), at' (.int .i64 a)] H (fun u G => u = at' (.int .i64 (unS op a)) ∧ G = H) := by
 refine Sim.of_tri Try.func74 rfl ?_
 show TrP 14 _ _ _ _
 refine Tri.seq ?_
 refine tR ?_
 refine sV rfl rfl rfl ?_
 show TrP 14 _ _ _ _
 refine tH [(0, _), (1, _), (4, _)] ?_
 refine Tri.seq ?_
 refine Tri.seq ?_
 refine tR ?_
 refine sV rfl rfl rfl ?_
 show TrP 14 _ _ _ _
 refine tH [(0, _), (1, _), (4, _), (5, _)] ?_
 refine Tri.block ?_
 refine Tri.seq ?_
 refine tR ?_
 refine sO rfl rfl (oE rfl (fun h7 => ?_) (fun h7 => ?_))
 ·
  refine sV rfl rfl rfl ?_
  show TrP 14 _ _ _ _
  refine tH [(0, _), (1, _), (4, _), (5, _), (6, _)] ?_
  refine tT rfl ?_
  refine Tri.seq ?_
  refine tR ?_
  iterate 3 refine sV rfl rfl rfl ?_
  show TrP 14 _ _ _ _
  refine tH [(0, _), (1, _), (4, _), (5, _), (6, _)] ?_
  refine Tri.ret ?_
  refine ⟨trivial, _, rfl, ?_⟩
  unfold unS; rw [if_pos h7]; exact ⟨rfl, rfl⟩
 ·
  refine sV rfl rfl rfl ?_
  show TrP 14 _ _ _ _
  refine tH [(0, _), (1, _), (4, _), (5, _), (6, _)] ?_
  refine tF rfl ?_
  refine Tri.seq ?_
  refine tR ?_
  refine sO rfl rfl (oE rfl (fun h11 => ?_) (fun h11 => ?_))
  ·
   refine sV rfl rfl rfl ?_
   show TrP 14 _ _ _ _
   refine tH [(0, _), (1, _), (4, _), (5, _), (6, _), (10, _)] ?_
   refine tT rfl ?_
   refine Tri.seq ?_
   refine tR ?_
   iterate 3 refine sV rfl rfl rfl ?_
   show TrP 14 _ _ _ _
   refine tH [(0, _), (1, _), (4, _), (5, _), (6, _), (10, _)] ?_
   refine Tri.ret ?_
   refine ⟨trivial, _, rfl, ?_⟩
   unfold unS; rw [if_neg h7, if_pos h11]; exact ⟨rfl, rfl⟩
  ·
   refine sV rfl rfl rfl ?_
   show TrP 14 _ _ _ _
   refine tH [(0, _), (1, _), (4, _), (5, _), (6, _), (10, _)] ?_
   refine tF rfl ?_
   refine Tri.skip ?_
   show TrP 14 _ _ _ _
   refine tH [(0, _), (1, _), (4, _), (5, _), (6, _), (10, _)] ?_
   refine Tri.seq ?_
   refine tR ?_
   refine sV rfl rfl rfl ?_
   show TrP 14 _ _ _ _
   refine tH [(0, _), (1, _), (4, _), (5, _), (6, _), (10, _)] ?_
   refine Tri.ret ?_
   refine ⟨trivial, _, rfl, ?_⟩
   unfold unS; rw [if_neg h7, if_neg h11]; exact ⟨rfl, rfl⟩
/-- By how much is shifted. -/
def byS (b : Int) : Int := wrapA .u64 (IntKind.i64.wrap (BitVec.ofInt IntKind.i64.bits b &&& BitVec.ofInt IntKind.i64.bits 63).toNat)
theorem byS_pos (b : Int) : ¬ byS b < 0 := by
  unfold byS
  rw [wrapA_eq, wrap_num .u64 _ 18446744073709551616 9223372036854775808 (by decide) (by decide)]
  rw [if_neg (by intro h; have := h.1; cases this)]
  have := Int.emod_nonneg (IntKind.i64.wrap (BitVec.ofInt IntKind.i64.bits b &&& BitVec.ofInt IntKind.i64.bits 63).toNat) (b := 18446744073709551616) (by decide)
  omega
def shS (op a b : Int) : Int :=
  if op = 12 then IntKind.i64.wrap (a * 2 ^ (min (byS b).toNat IntKind.i64.bits))
  else if op = 13 then wrapA .i64 ((wrapA .u64 a).fdiv (2 ^ (min (byS b).toNat IntKind.u64.bits)))
  else if op = 14 then a.fdiv (2 ^ (min (byS b).toNat IntKind.i64.bits))
  else if op = 15 then truS (decide (a = b)) else if op = 16 then truS (decide (a ≠ b)) else if op = 17 then truS (decide (a < b)) else if op = 18 then truS (decide (a ≤ b))
  else if op = 19 then truS (decide (wrapA .u64 a < wrapA .u64 b)) else 0
section
variable {P : Program} {eqs : Eqs} {lk : Env} {H : Heap} {K : AV → Heap → Prop}
theorem oShl {t yt : TypeId} {x y : Operand} {n m : Int} {k k' : IntKind} (hx : rho lk x = some (at' (.int k n))) (hy : rho lk y = some (at' (.int k' m))) (hm : ¬ m < 0) (hk : K (at' (.int k (k.wrap (n * 2 ^ (min m.toNat k.bits))))) H) : opP P eqs (.binOp .shl t x y yt) lk H K :=
  oV (v := at' (.int k (k.wrap (n * 2 ^ (min m.toNat k.bits))))) (by
    show op_binOp .shl t x y yt P eqs lk H = _
    unfold op_binOp
    rw [hx, hy]
    have e : binA P eqs .shl t (at' (.int k n)) (at' (.int k' m)) = some (.int k (k.wrap (n * 2 ^ (min m.toNat k.bits)))) := by
      show shiftI .shl k n m = _
      unfold shiftI; rw [if_neg hm]
    simp only [e]) hk
theorem oShr {t yt : TypeId} {x y : Operand} {n m : Int} {k k' : IntKind} (hx : rho lk x = some (at' (.int k n))) (hy : rho lk y = some (at' (.int k' m))) (hm : ¬ m < 0) (hk : K (at' (.int k (n.fdiv (2 ^ (min m.toNat k.bits))))) H) : opP P eqs (.binOp .shr t x y yt) lk H K :=
  oV (v := at' (.int k (n.fdiv (2 ^ (min m.toNat k.bits))))) (by
    show op_binOp .shr t x y yt P eqs lk H = _
    unfold op_binOp
    rw [hx, hy]
    have e : binA P eqs .shr t (at' (.int k n)) (at' (.int k' m)) = some (.int k (n.fdiv (2 ^ (min m.toNat k.bits)))) := by
      show shiftI .shr k n m = _
      unfold shiftI; rw [if_neg hm]
    simp only [e]) hk
end

theorem sh_ok (op a b : Int) (H : Heap) : Sim Try.prog 35 [at' (.int .i64 op), at' (.int .i64 a), at' (.int .i64 b)] H (fun u G => u = at' (.int .i64 (shS op a b)) ∧ G = H) := by
 refine Sim.of_tri Try.func35 rfl ?_
 show TrP 61 _ _ _ _
 refine Tri.seq ?_
 refine tR ?_
 refine sV rfl rfl rfl ?_
 show TrP 61 _ _ _ _
 refine tH [(0, _), (1, _), (2, _), (6, _)] ?_
 refine Tri.seq ?_
 refine tR ?_
 iterate 2 refine sV rfl rfl rfl ?_
 refine sO rfl rfl (oW (at' (.int .u64 (byS b))) rfl rfl ?_)
 refine sV rfl rfl rfl ?_
 show TrP 61 _ _ _ _
 refine tH [(0, _), (1, _), (2, _), (6, _), (7, _)] ?_
 refine Tri.seq ?_
 refine Tri.seq ?_
 refine tR ?_
 refine sV rfl rfl rfl ?_
 show TrP 61 _ _ _ _
 refine tH [(0, _), (1, _), (2, _), (6, _), (7, _), (11, _)] ?_
 refine Tri.block ?_
 refine Tri.seq ?_
 refine tR ?_
 refine sO rfl rfl (oE rfl (fun h13 => ?_) (fun h13 => ?_))
 ·
  refine sV rfl rfl rfl ?_
  show TrP 61 _ _ _ _
  refine tH [(0, _), (1, _), (2, _), (6, _), (7, _), (11, _), (12, _)] ?_
  refine tT rfl ?_
  refine Tri.seq ?_
  refine tR ?_
  iterate 2 refine sV rfl rfl rfl ?_
  refine sO rfl rfl (oShl rfl rfl (byS_pos b) ?_)
  refine sV rfl rfl rfl ?_
  show TrP 61 _ _ _ _
  refine tH [(0, _), (1, _), (2, _), (6, _), (7, _), (11, _), (12, _)] ?_
  refine Tri.ret ?_
  refine ⟨trivial, _, rfl, ?_⟩
  unfold shS; rw [if_pos h13]; exact ⟨rfl, rfl⟩
 ·
  refine sV rfl rfl rfl ?_
  show TrP 61 _ _ _ _
  refine tH [(0, _), (1, _), (2, _), (6, _), (7, _), (11, _), (12, _)] ?_
  refine tF rfl ?_
  refine Tri.seq ?_
  refine tR ?_
  refine sO rfl rfl (oE rfl (fun h18 => ?_) (fun h18 => ?_))
  ·
   refine sV rfl rfl rfl ?_
   show TrP 61 _ _ _ _
   refine tH [(0, _), (1, _), (2, _), (6, _), (7, _), (11, _), (12, _), (17, _)] ?_
   refine tT rfl ?_
   refine Tri.seq ?_
   refine tR ?_
   iterate 3 refine sV rfl rfl rfl ?_
   refine sO rfl rfl (oShr rfl rfl (byS_pos b) ?_)
   iterate 2 refine sV rfl rfl rfl ?_
   show TrP 61 _ _ _ _
   refine tH [(0, _), (1, _), (2, _), (6, _), (7, _), (11, _), (12, _), (17, _)] ?_
   refine Tri.ret ?_
   refine ⟨trivial, _, rfl, ?_⟩
   unfold shS; rw [if_neg h13, if_pos h18]; exact ⟨rfl, rfl⟩
  ·
   refine sV rfl rfl rfl ?_
   show TrP 61 _ _ _ _
   refine tH [(0, _), (1, _), (2, _), (6, _), (7, _), (11, _), (12, _), (17, _)] ?_
   refine tF rfl ?_
   refine Tri.seq ?_
   refine tR ?_
   refine sO rfl rfl (oE rfl (fun h25 => ?_) (fun h25 => ?_))
   ·
    refine sV rfl rfl rfl ?_
    show TrP 61 _ _ _ _
    refine tH [(0, _), (1, _), (2, _), (6, _), (7, _), (11, _), (12, _), (17, _), (24, _)] ?_
    refine tT rfl ?_
    refine Tri.seq ?_
    refine tR ?_
    iterate 2 refine sV rfl rfl rfl ?_
    refine sO rfl rfl (oShr rfl rfl (byS_pos b) ?_)
    refine sV rfl rfl rfl ?_
    show TrP 61 _ _ _ _
    refine tH [(0, _), (1, _), (2, _), (6, _), (7, _), (11, _), (12, _), (17, _), (24, _)] ?_
    refine Tri.ret ?_
    refine ⟨trivial, _, rfl, ?_⟩
    unfold shS; rw [if_neg h13, if_neg h18, if_pos h25]; exact ⟨rfl, rfl⟩
   ·
    refine sV rfl rfl rfl ?_
    show TrP 61 _ _ _ _
    refine tH [(0, _), (1, _), (2, _), (6, _), (7, _), (11, _), (12, _), (17, _), (24, _)] ?_
    refine tF rfl ?_
    refine Tri.seq ?_
    refine tR ?_
    refine sO rfl rfl (oE rfl (fun h30 => ?_) (fun h30 => ?_))
    ·
     refine sV rfl rfl rfl ?_
     show TrP 61 _ _ _ _
     refine tH [(0, _), (1, _), (2, _), (6, _), (7, _), (11, _), (12, _), (17, _), (24, _), (29, _)] ?_
     refine tT rfl ?_
     refine Tri.seq ?_
     refine tR ?_
     iterate 2 refine sV rfl rfl rfl ?_
     refine sO rfl rfl (oE rfl (fun h33 => ?_) (fun h33 => ?_))
     ·
      refine sO rfl rfl (oF rfl (fnOk_of Try.func52 (by decide) rfl) (truth_ok _ _) ?_)
      refine sV rfl rfl rfl ?_
      show TrP 61 _ _ _ _
      refine tH [(0, _), (1, _), (2, _), (6, _), (7, _), (11, _), (12, _), (17, _), (24, _), (29, _)] ?_
      refine Tri.ret ?_
      refine ⟨trivial, _, rfl, ?_⟩
      unfold shS; rw [if_neg h13, if_neg h18, if_neg h25, if_pos h30]; first | (rw [decide_eq_true h33]; exact ⟨rfl, rfl⟩) | (rw [decide_eq_false h33]; exact ⟨rfl, rfl⟩) | (rw [decide_eq_false (fun e => h33 e)]; exact ⟨rfl, rfl⟩) | (rw [decide_eq_false (fun e => e h33)]; exact ⟨rfl, rfl⟩)
     ·
      refine sO rfl rfl (oF rfl (fnOk_of Try.func52 (by decide) rfl) (truth_ok _ _) ?_)
      refine sV rfl rfl rfl ?_
      show TrP 61 _ _ _ _
      refine tH [(0, _), (1, _), (2, _), (6, _), (7, _), (11, _), (12, _), (17, _), (24, _), (29, _)] ?_
      refine Tri.ret ?_
      refine ⟨trivial, _, rfl, ?_⟩
      unfold shS; rw [if_neg h13, if_neg h18, if_neg h25, if_pos h30]; first | (rw [decide_eq_true h33]; exact ⟨rfl, rfl⟩) | (rw [decide_eq_false h33]; exact ⟨rfl, rfl⟩) | (rw [decide_eq_false (fun e => h33 e)]; exact ⟨rfl, rfl⟩) | (rw [decide_eq_false (fun e => e h33)]; exact ⟨rfl, rfl⟩)
    ·
     refine sV rfl rfl rfl ?_
     show TrP 61 _ _ _ _
     refine tH [(0, _), (1, _), (2, _), (6, _), (7, _), (11, _), (12, _), (17, _), (24, _), (29, _)] ?_
     refine tF rfl ?_
     refine Tri.seq ?_
     refine tR ?_
     refine sO rfl rfl (oE rfl (fun h36 => ?_) (fun h36 => ?_))
     ·
      refine sV rfl rfl rfl ?_
      show TrP 61 _ _ _ _
      refine tH [(0, _), (1, _), (2, _), (6, _), (7, _), (11, _), (12, _), (17, _), (24, _), (29, _), (35, _)] ?_
      refine tT rfl ?_
      refine Tri.seq ?_
      refine tR ?_
      iterate 2 refine sV rfl rfl rfl ?_
      refine sO rfl rfl (oNE rfl (fun h39 => ?_) (fun h39 => ?_))
      ·
       refine sO rfl rfl (oF rfl (fnOk_of Try.func52 (by decide) rfl) (truth_ok _ _) ?_)
       refine sV rfl rfl rfl ?_
       show TrP 61 _ _ _ _
       refine tH [(0, _), (1, _), (2, _), (6, _), (7, _), (11, _), (12, _), (17, _), (24, _), (29, _), (35, _)] ?_
       refine Tri.ret ?_
       refine ⟨trivial, _, rfl, ?_⟩
       unfold shS; rw [if_neg h13, if_neg h18, if_neg h25, if_neg h30, if_pos h36]; first | (rw [decide_eq_true h39]; exact ⟨rfl, rfl⟩) | (rw [decide_eq_false h39]; exact ⟨rfl, rfl⟩) | (rw [decide_eq_false (fun e => h39 e)]; exact ⟨rfl, rfl⟩) | (rw [decide_eq_false (fun e => e h39)]; exact ⟨rfl, rfl⟩)
      ·
       refine sO rfl rfl (oF rfl (fnOk_of Try.func52 (by decide) rfl) (truth_ok _ _) ?_)
       refine sV rfl rfl rfl ?_
       show TrP 61 _ _ _ _
       refine tH [(0, _), (1, _), (2, _), (6, _), (7, _), (11, _), (12, _), (17, _), (24, _), (29, _), (35, _)] ?_
       refine Tri.ret ?_
       refine ⟨trivial, _, rfl, ?_⟩
       unfold shS; rw [if_neg h13, if_neg h18, if_neg h25, if_neg h30, if_pos h36]; first | (rw [decide_eq_true h39]; exact ⟨rfl, rfl⟩) | (rw [decide_eq_false h39]; exact ⟨rfl, rfl⟩) | (rw [decide_eq_false (fun e => h39 e)]; exact ⟨rfl, rfl⟩) | (rw [decide_eq_false (fun e => e h39)]; exact ⟨rfl, rfl⟩)
     ·
      refine sV rfl rfl rfl ?_
      show TrP 61 _ _ _ _
      refine tH [(0, _), (1, _), (2, _), (6, _), (7, _), (11, _), (12, _), (17, _), (24, _), (29, _), (35, _)] ?_
      refine tF rfl ?_
      refine Tri.seq ?_
      refine tR ?_
      refine sO rfl rfl (oE rfl (fun h42 => ?_) (fun h42 => ?_))
      ·
       refine sV rfl rfl rfl ?_
       show TrP 61 _ _ _ _
       refine tH [(0, _), (1, _), (2, _), (6, _), (7, _), (11, _), (12, _), (17, _), (24, _), (29, _), (35, _), (41, _)] ?_
       refine tT rfl ?_
       refine Tri.seq ?_
       refine tR ?_
       iterate 2 refine sV rfl rfl rfl ?_
       refine sO rfl rfl (oP rfl (fun h45 => ?_) (fun h45 => ?_))
       ·
        refine sO rfl rfl (oF rfl (fnOk_of Try.func52 (by decide) rfl) (truth_ok _ _) ?_)
        refine sV rfl rfl rfl ?_
        show TrP 61 _ _ _ _
        refine tH [(0, _), (1, _), (2, _), (6, _), (7, _), (11, _), (12, _), (17, _), (24, _), (29, _), (35, _), (41, _)] ?_
        refine Tri.ret ?_
        refine ⟨trivial, _, rfl, ?_⟩
        unfold shS; rw [if_neg h13, if_neg h18, if_neg h25, if_neg h30, if_neg h36, if_pos h42]; first | (rw [decide_eq_true h45]; exact ⟨rfl, rfl⟩) | (rw [decide_eq_false h45]; exact ⟨rfl, rfl⟩) | (rw [decide_eq_false (fun e => h45 e)]; exact ⟨rfl, rfl⟩) | (rw [decide_eq_false (fun e => e h45)]; exact ⟨rfl, rfl⟩)
       ·
        refine sO rfl rfl (oF rfl (fnOk_of Try.func52 (by decide) rfl) (truth_ok _ _) ?_)
        refine sV rfl rfl rfl ?_
        show TrP 61 _ _ _ _
        refine tH [(0, _), (1, _), (2, _), (6, _), (7, _), (11, _), (12, _), (17, _), (24, _), (29, _), (35, _), (41, _)] ?_
        refine Tri.ret ?_
        refine ⟨trivial, _, rfl, ?_⟩
        unfold shS; rw [if_neg h13, if_neg h18, if_neg h25, if_neg h30, if_neg h36, if_pos h42]; first | (rw [decide_eq_true h45]; exact ⟨rfl, rfl⟩) | (rw [decide_eq_false h45]; exact ⟨rfl, rfl⟩) | (rw [decide_eq_false (fun e => h45 e)]; exact ⟨rfl, rfl⟩) | (rw [decide_eq_false (fun e => e h45)]; exact ⟨rfl, rfl⟩)
      ·
       refine sV rfl rfl rfl ?_
       show TrP 61 _ _ _ _
       refine tH [(0, _), (1, _), (2, _), (6, _), (7, _), (11, _), (12, _), (17, _), (24, _), (29, _), (35, _), (41, _)] ?_
       refine tF rfl ?_
       refine Tri.seq ?_
       refine tR ?_
       refine sO rfl rfl (oE rfl (fun h48 => ?_) (fun h48 => ?_))
       ·
        refine sV rfl rfl rfl ?_
        show TrP 61 _ _ _ _
        refine tH [(0, _), (1, _), (2, _), (6, _), (7, _), (11, _), (12, _), (17, _), (24, _), (29, _), (35, _), (41, _), (47, _)] ?_
        refine tT rfl ?_
        refine Tri.seq ?_
        refine tR ?_
        iterate 2 refine sV rfl rfl rfl ?_
        refine sO rfl rfl (oP rfl (fun h51 => ?_) (fun h51 => ?_))
        ·
         refine sO rfl rfl (oF rfl (fnOk_of Try.func52 (by decide) rfl) (truth_ok _ _) ?_)
         refine sV rfl rfl rfl ?_
         show TrP 61 _ _ _ _
         refine tH [(0, _), (1, _), (2, _), (6, _), (7, _), (11, _), (12, _), (17, _), (24, _), (29, _), (35, _), (41, _), (47, _)] ?_
         refine Tri.ret ?_
         refine ⟨trivial, _, rfl, ?_⟩
         unfold shS; rw [if_neg h13, if_neg h18, if_neg h25, if_neg h30, if_neg h36, if_neg h42, if_pos h48]; first | (rw [decide_eq_true h51]; exact ⟨rfl, rfl⟩) | (rw [decide_eq_false h51]; exact ⟨rfl, rfl⟩) | (rw [decide_eq_false (fun e => h51 e)]; exact ⟨rfl, rfl⟩) | (rw [decide_eq_false (fun e => e h51)]; exact ⟨rfl, rfl⟩)
        ·
         refine sO rfl rfl (oF rfl (fnOk_of Try.func52 (by decide) rfl) (truth_ok _ _) ?_)
         refine sV rfl rfl rfl ?_
         show TrP 61 _ _ _ _
         refine tH [(0, _), (1, _), (2, _), (6, _), (7, _), (11, _), (12, _), (17, _), (24, _), (29, _), (35, _), (41, _), (47, _)] ?_
         refine Tri.ret ?_
         refine ⟨trivial, _, rfl, ?_⟩
         unfold shS; rw [if_neg h13, if_neg h18, if_neg h25, if_neg h30, if_neg h36, if_neg h42, if_pos h48]; first | (rw [decide_eq_true h51]; exact ⟨rfl, rfl⟩) | (rw [decide_eq_false h51]; exact ⟨rfl, rfl⟩) | (rw [decide_eq_false (fun e => h51 e)]; exact ⟨rfl, rfl⟩) | (rw [decide_eq_false (fun e => e h51)]; exact ⟨rfl, rfl⟩)
       ·
        refine sV rfl rfl rfl ?_
        show TrP 61 _ _ _ _
        refine tH [(0, _), (1, _), (2, _), (6, _), (7, _), (11, _), (12, _), (17, _), (24, _), (29, _), (35, _), (41, _), (47, _)] ?_
        refine tF rfl ?_
        refine Tri.seq ?_
        refine tR ?_
        refine sO rfl rfl (oE rfl (fun h54 => ?_) (fun h54 => ?_))
        ·
         refine sV rfl rfl rfl ?_
         show TrP 61 _ _ _ _
         refine tH [(0, _), (1, _), (2, _), (6, _), (7, _), (11, _), (12, _), (17, _), (24, _), (29, _), (35, _), (41, _), (47, _), (53, _)] ?_
         refine tT rfl ?_
         refine Tri.seq ?_
         refine tR ?_
         iterate 4 refine sV rfl rfl rfl ?_
         refine sO rfl rfl (oP rfl (fun h59 => ?_) (fun h59 => ?_))
         ·
          refine sO rfl rfl (oF rfl (fnOk_of Try.func52 (by decide) rfl) (truth_ok _ _) ?_)
          refine sV rfl rfl rfl ?_
          show TrP 61 _ _ _ _
          refine tH [(0, _), (1, _), (2, _), (6, _), (7, _), (11, _), (12, _), (17, _), (24, _), (29, _), (35, _), (41, _), (47, _), (53, _)] ?_
          refine Tri.ret ?_
          refine ⟨trivial, _, rfl, ?_⟩
          unfold shS; rw [if_neg h13, if_neg h18, if_neg h25, if_neg h30, if_neg h36, if_neg h42, if_neg h48, if_pos h54]; first | (rw [decide_eq_true h59]; exact ⟨rfl, rfl⟩) | (rw [decide_eq_false h59]; exact ⟨rfl, rfl⟩) | (rw [decide_eq_false (fun e => h59 e)]; exact ⟨rfl, rfl⟩) | (rw [decide_eq_false (fun e => e h59)]; exact ⟨rfl, rfl⟩)
         ·
          refine sO rfl rfl (oF rfl (fnOk_of Try.func52 (by decide) rfl) (truth_ok _ _) ?_)
          refine sV rfl rfl rfl ?_
          show TrP 61 _ _ _ _
          refine tH [(0, _), (1, _), (2, _), (6, _), (7, _), (11, _), (12, _), (17, _), (24, _), (29, _), (35, _), (41, _), (47, _), (53, _)] ?_
          refine Tri.ret ?_
          refine ⟨trivial, _, rfl, ?_⟩
          unfold shS; rw [if_neg h13, if_neg h18, if_neg h25, if_neg h30, if_neg h36, if_neg h42, if_neg h48, if_pos h54]; first | (rw [decide_eq_true h59]; exact ⟨rfl, rfl⟩) | (rw [decide_eq_false h59]; exact ⟨rfl, rfl⟩) | (rw [decide_eq_false (fun e => h59 e)]; exact ⟨rfl, rfl⟩) | (rw [decide_eq_false (fun e => e h59)]; exact ⟨rfl, rfl⟩)
        ·
         refine sV rfl rfl rfl ?_
         show TrP 61 _ _ _ _
         refine tH [(0, _), (1, _), (2, _), (6, _), (7, _), (11, _), (12, _), (17, _), (24, _), (29, _), (35, _), (41, _), (47, _), (53, _)] ?_
         refine tF rfl ?_
         refine Tri.skip ?_
         show TrP 61 _ _ _ _
         refine tH [(0, _), (1, _), (2, _), (6, _), (7, _), (11, _), (12, _), (17, _), (24, _), (29, _), (35, _), (41, _), (47, _), (53, _)] ?_
         refine Tri.seq ?_
         refine tR ?_
         refine sV rfl rfl rfl ?_
         show TrP 61 _ _ _ _
         refine tH [(0, _), (1, _), (2, _), (6, _), (7, _), (11, _), (12, _), (17, _), (24, _), (29, _), (35, _), (41, _), (47, _), (53, _)] ?_
         refine Tri.ret ?_
         refine ⟨trivial, _, rfl, ?_⟩
         unfold shS; rw [if_neg h13, if_neg h18, if_neg h25, if_neg h30, if_neg h36, if_neg h42, if_neg h48, if_neg h54]; exact ⟨rfl, rfl⟩
def binW (op a b : Int) : Int :=
  if op = 4 then wrapA .i64 (a + b) else if op = 5 then wrapA .i64 (a - b) else if op = 6 then wrapA .i64 (a * b) else if op = 7 then quoS a b
  else if op = 8 then (if b = 0 then 0 else wrapA .i64 (a - wrapA .i64 (quoS a b * b)))
  else if op = 9 then IntKind.i64.wrap (BitVec.ofInt IntKind.i64.bits a &&& BitVec.ofInt IntKind.i64.bits b).toNat
  else if op = 10 then IntKind.i64.wrap (BitVec.ofInt IntKind.i64.bits a ||| BitVec.ofInt IntKind.i64.bits b).toNat
  else if op = 11 then IntKind.i64.wrap (BitVec.ofInt IntKind.i64.bits a ^^^ BitVec.ofInt IntKind.i64.bits b).toNat
  else shS op a b

theorem bin_ok (op a b : Int) (H : Heap) : Sim Try.prog 19 [at' (.int .i64 op), at' (.int .i64 a), at' (.int .i64 b)] H (fun u G => u = at' (.int .i64 (binW op a b)) ∧ G = H) := by
 refine Sim.of_tri Try.func19 rfl ?_
 show TrP 58 _ _ _ _
 refine Tri.seq ?_
 refine tR ?_
 refine sV rfl rfl rfl ?_
 show TrP 58 _ _ _ _
 refine tH [(0, _), (1, _), (2, _), (6, _)] ?_
 refine Tri.seq ?_
 refine Tri.seq ?_
 refine tR ?_
 refine sV rfl rfl rfl ?_
 show TrP 58 _ _ _ _
 refine tH [(0, _), (1, _), (2, _), (6, _), (7, _)] ?_
 refine Tri.block ?_
 refine Tri.seq ?_
 refine tR ?_
 refine sO rfl rfl (oE rfl (fun h9 => ?_) (fun h9 => ?_))
 ·
  refine sV rfl rfl rfl ?_
  show TrP 58 _ _ _ _
  refine tH [(0, _), (1, _), (2, _), (6, _), (7, _), (8, _)] ?_
  refine tT rfl ?_
  refine Tri.seq ?_
  refine tR ?_
  iterate 4 refine sV rfl rfl rfl ?_
  show TrP 58 _ _ _ _
  refine tH [(0, _), (1, _), (2, _), (6, _), (7, _), (8, _)] ?_
  refine Tri.ret ?_
  refine ⟨trivial, _, rfl, ?_⟩
  unfold binW; rw [if_pos h9]; exact ⟨rfl, rfl⟩
 ·
  refine sV rfl rfl rfl ?_
  show TrP 58 _ _ _ _
  refine tH [(0, _), (1, _), (2, _), (6, _), (7, _), (8, _)] ?_
  refine tF rfl ?_
  refine Tri.seq ?_
  refine tR ?_
  refine sO rfl rfl (oE rfl (fun h14 => ?_) (fun h14 => ?_))
  ·
   refine sV rfl rfl rfl ?_
   show TrP 58 _ _ _ _
   refine tH [(0, _), (1, _), (2, _), (6, _), (7, _), (8, _), (13, _)] ?_
   refine tT rfl ?_
   refine Tri.seq ?_
   refine tR ?_
   iterate 4 refine sV rfl rfl rfl ?_
   show TrP 58 _ _ _ _
   refine tH [(0, _), (1, _), (2, _), (6, _), (7, _), (8, _), (13, _)] ?_
   refine Tri.ret ?_
   refine ⟨trivial, _, rfl, ?_⟩
   unfold binW; rw [if_neg h9, if_pos h14]; exact ⟨rfl, rfl⟩
  ·
   refine sV rfl rfl rfl ?_
   show TrP 58 _ _ _ _
   refine tH [(0, _), (1, _), (2, _), (6, _), (7, _), (8, _), (13, _)] ?_
   refine tF rfl ?_
   refine Tri.seq ?_
   refine tR ?_
   refine sO rfl rfl (oE rfl (fun h19 => ?_) (fun h19 => ?_))
   ·
    refine sV rfl rfl rfl ?_
    show TrP 58 _ _ _ _
    refine tH [(0, _), (1, _), (2, _), (6, _), (7, _), (8, _), (13, _), (18, _)] ?_
    refine tT rfl ?_
    refine Tri.seq ?_
    refine tR ?_
    iterate 4 refine sV rfl rfl rfl ?_
    show TrP 58 _ _ _ _
    refine tH [(0, _), (1, _), (2, _), (6, _), (7, _), (8, _), (13, _), (18, _)] ?_
    refine Tri.ret ?_
    refine ⟨trivial, _, rfl, ?_⟩
    unfold binW; rw [if_neg h9, if_neg h14, if_pos h19]; exact ⟨rfl, rfl⟩
   ·
    refine sV rfl rfl rfl ?_
    show TrP 58 _ _ _ _
    refine tH [(0, _), (1, _), (2, _), (6, _), (7, _), (8, _), (13, _), (18, _)] ?_
    refine tF rfl ?_
    refine Tri.seq ?_
    refine tR ?_
    refine sO rfl rfl (oE rfl (fun h24 => ?_) (fun h24 => ?_))
    ·
     refine sV rfl rfl rfl ?_
     show TrP 58 _ _ _ _
     refine tH [(0, _), (1, _), (2, _), (6, _), (7, _), (8, _), (13, _), (18, _), (23, _)] ?_
     refine tT rfl ?_
     refine Tri.seq ?_
     refine tR ?_
     iterate 2 refine sV rfl rfl rfl ?_
     refine sO rfl rfl (oF rfl (fnOk_of Try.func34 (by decide) rfl) (quo_ok _ _ _) ?_)
     refine sV rfl rfl rfl ?_
     show TrP 58 _ _ _ _
     refine tH [(0, _), (1, _), (2, _), (6, _), (7, _), (8, _), (13, _), (18, _), (23, _)] ?_
     refine Tri.ret ?_
     refine ⟨trivial, _, rfl, ?_⟩
     unfold binW; rw [if_neg h9, if_neg h14, if_neg h19, if_pos h24]; exact ⟨rfl, rfl⟩
    ·
     refine sV rfl rfl rfl ?_
     show TrP 58 _ _ _ _
     refine tH [(0, _), (1, _), (2, _), (6, _), (7, _), (8, _), (13, _), (18, _), (23, _)] ?_
     refine tF rfl ?_
     refine Tri.seq ?_
     refine tR ?_
     refine sO rfl rfl (oE rfl (fun h29 => ?_) (fun h29 => ?_))
     ·
      refine sV rfl rfl rfl ?_
      show TrP 58 _ _ _ _
      refine tH [(0, _), (1, _), (2, _), (6, _), (7, _), (8, _), (13, _), (18, _), (23, _), (28, _)] ?_
      refine tT rfl ?_
      refine Tri.seq ?_
      refine Tri.seq ?_
      refine tR ?_
      refine sV rfl rfl rfl ?_
      refine sO rfl rfl (oE rfl (fun h31 => ?_) (fun h31 => ?_))
      ·
       show TrP 58 _ _ _ _
       refine tH [(0, _), (1, _), (2, _), (6, _), (7, _), (8, _), (13, _), (18, _), (23, _), (28, _), (31, _)] ?_
       refine tT rfl ?_
       refine Tri.seq ?_
       refine tR ?_
       refine sV rfl rfl rfl ?_
       show TrP 58 _ _ _ _
       refine tH [(0, _), (1, _), (2, _), (6, _), (7, _), (8, _), (13, _), (18, _), (23, _), (28, _), (31, _)] ?_
       refine Tri.ret ?_
       refine ⟨trivial, _, rfl, ?_⟩
       unfold binW; rw [if_neg h9, if_neg h14, if_neg h19, if_neg h24, if_pos h29, if_pos h31]; exact ⟨rfl, rfl⟩
      ·
       show TrP 58 _ _ _ _
       refine tH [(0, _), (1, _), (2, _), (6, _), (7, _), (8, _), (13, _), (18, _), (23, _), (28, _), (31, _)] ?_
       refine tF rfl ?_
       refine Tri.skip ?_
       show TrP 58 _ _ _ _
       refine tH [(0, _), (1, _), (2, _), (6, _), (7, _), (8, _), (13, _), (18, _), (23, _), (28, _), (31, _)] ?_
       refine Tri.seq ?_
       refine tR ?_
       iterate 3 refine sV rfl rfl rfl ?_
       refine sO rfl rfl (oF rfl (fnOk_of Try.func34 (by decide) rfl) (quo_ok _ _ _) ?_)
       iterate 4 refine sV rfl rfl rfl ?_
       show TrP 58 _ _ _ _
       refine tH [(0, _), (1, _), (2, _), (6, _), (7, _), (8, _), (13, _), (18, _), (23, _), (28, _), (31, _)] ?_
       refine Tri.ret ?_
       refine ⟨trivial, _, rfl, ?_⟩
       unfold binW; rw [if_neg h9, if_neg h14, if_neg h19, if_neg h24, if_pos h29, if_neg h31]; exact ⟨rfl, rfl⟩
     ·
      refine sV rfl rfl rfl ?_
      show TrP 58 _ _ _ _
      refine tH [(0, _), (1, _), (2, _), (6, _), (7, _), (8, _), (13, _), (18, _), (23, _), (28, _)] ?_
      refine tF rfl ?_
      refine Tri.seq ?_
      refine tR ?_
      refine sO rfl rfl (oE rfl (fun h40 => ?_) (fun h40 => ?_))
      ·
       refine sV rfl rfl rfl ?_
       show TrP 58 _ _ _ _
       refine tH [(0, _), (1, _), (2, _), (6, _), (7, _), (8, _), (13, _), (18, _), (23, _), (28, _), (39, _)] ?_
       refine tT rfl ?_
       refine Tri.seq ?_
       refine tR ?_
       iterate 4 refine sV rfl rfl rfl ?_
       show TrP 58 _ _ _ _
       refine tH [(0, _), (1, _), (2, _), (6, _), (7, _), (8, _), (13, _), (18, _), (23, _), (28, _), (39, _)] ?_
       refine Tri.ret ?_
       refine ⟨trivial, _, rfl, ?_⟩
       unfold binW; rw [if_neg h9, if_neg h14, if_neg h19, if_neg h24, if_neg h29, if_pos h40]; exact ⟨rfl, rfl⟩
      ·
       refine sV rfl rfl rfl ?_
       show TrP 58 _ _ _ _
       refine tH [(0, _), (1, _), (2, _), (6, _), (7, _), (8, _), (13, _), (18, _), (23, _), (28, _), (39, _)] ?_
       refine tF rfl ?_
       refine Tri.seq ?_
       refine tR ?_
       refine sO rfl rfl (oE rfl (fun h45 => ?_) (fun h45 => ?_))
       ·
        refine sV rfl rfl rfl ?_
        show TrP 58 _ _ _ _
        refine tH [(0, _), (1, _), (2, _), (6, _), (7, _), (8, _), (13, _), (18, _), (23, _), (28, _), (39, _), (44, _)] ?_
        refine tT rfl ?_
        refine Tri.seq ?_
        refine tR ?_
        iterate 4 refine sV rfl rfl rfl ?_
        show TrP 58 _ _ _ _
        refine tH [(0, _), (1, _), (2, _), (6, _), (7, _), (8, _), (13, _), (18, _), (23, _), (28, _), (39, _), (44, _)] ?_
        refine Tri.ret ?_
        refine ⟨trivial, _, rfl, ?_⟩
        unfold binW; rw [if_neg h9, if_neg h14, if_neg h19, if_neg h24, if_neg h29, if_neg h40, if_pos h45]; exact ⟨rfl, rfl⟩
       ·
        refine sV rfl rfl rfl ?_
        show TrP 58 _ _ _ _
        refine tH [(0, _), (1, _), (2, _), (6, _), (7, _), (8, _), (13, _), (18, _), (23, _), (28, _), (39, _), (44, _)] ?_
        refine tF rfl ?_
        refine Tri.seq ?_
        refine tR ?_
        refine sO rfl rfl (oE rfl (fun h50 => ?_) (fun h50 => ?_))
        ·
         refine sV rfl rfl rfl ?_
         show TrP 58 _ _ _ _
         refine tH [(0, _), (1, _), (2, _), (6, _), (7, _), (8, _), (13, _), (18, _), (23, _), (28, _), (39, _), (44, _), (49, _)] ?_
         refine tT rfl ?_
         refine Tri.seq ?_
         refine tR ?_
         iterate 4 refine sV rfl rfl rfl ?_
         show TrP 58 _ _ _ _
         refine tH [(0, _), (1, _), (2, _), (6, _), (7, _), (8, _), (13, _), (18, _), (23, _), (28, _), (39, _), (44, _), (49, _)] ?_
         refine Tri.ret ?_
         refine ⟨trivial, _, rfl, ?_⟩
         unfold binW; rw [if_neg h9, if_neg h14, if_neg h19, if_neg h24, if_neg h29, if_neg h40, if_neg h45, if_pos h50]; exact ⟨rfl, rfl⟩
        ·
         refine sV rfl rfl rfl ?_
         show TrP 58 _ _ _ _
         refine tH [(0, _), (1, _), (2, _), (6, _), (7, _), (8, _), (13, _), (18, _), (23, _), (28, _), (39, _), (44, _), (49, _)] ?_
         refine tF rfl ?_
         refine Tri.skip ?_
         show TrP 58 _ _ _ _
         refine tH [(0, _), (1, _), (2, _), (6, _), (7, _), (8, _), (13, _), (18, _), (23, _), (28, _), (39, _), (44, _), (49, _)] ?_
         refine Tri.seq ?_
         refine tR ?_
         iterate 3 refine sV rfl rfl rfl ?_
         refine sO rfl rfl (oF rfl (fnOk_of Try.func35 (by decide) rfl) (sh_ok _ _ _ _) ?_)
         refine sV rfl rfl rfl ?_
         show TrP 58 _ _ _ _
         refine tH [(0, _), (1, _), (2, _), (6, _), (7, _), (8, _), (13, _), (18, _), (23, _), (28, _), (39, _), (44, _), (49, _)] ?_
         refine Tri.ret ?_
         refine ⟨trivial, _, rfl, ?_⟩
         unfold binW; rw [if_neg h9, if_neg h14, if_neg h19, if_neg h24, if_neg h29, if_neg h40, if_neg h45, if_neg h50]; exact ⟨rfl, rfl⟩
end Go.Proofs.Ytnhobbjbgljpnaa
