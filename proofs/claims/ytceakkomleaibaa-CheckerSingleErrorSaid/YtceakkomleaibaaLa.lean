/-
  CONTRACTS of the lexer's functions for any text (printed by wip/tools/walk.py from wip/specs/lexA.py). Written in this session.
-/
import Derived.Test.YtceakkomleaibaaEd1
import Derived.Test.YtceakkomleaibaaFa
namespace Go.Proofs.Ytceakkomleaibaa
open Go.Ea
set_option maxRecDepth 100000
set_option linter.unusedVariables false
set_option linter.unusedSimpArgs false
abbrev TrP := Tri Try.prog
theorem tR {N : Nat} {lk : Env} {H : Heap} {Q : PostA} {id : Nat} {ops : Array Oper} (h : wpO Try.prog eqs N ops.toList (Q .normal) ops.toList lk H) : Tri Try.prog N (.region id ops false) lk H Q := Tri.region mixed eqsOk h
def isL (b : UInt8) : Bool := (Nat.ble 97 b.toNat && Nat.ble b.toNat 122) || (Nat.ble 65 b.toNat && Nat.ble b.toNat 90) || Nat.beq b.toNat 95
def isD (b : UInt8) : Bool := Nat.ble 48 b.toNat && Nat.ble b.toNat 57
noncomputable def byteB (f : Nat) (g : UInt8 → Bool) (n : Nat) : Bool := match runA Try.prog eqs (plsOf tab out) 9 f [at' (.int .u8 n)] Heap.empty with
  | some (.one (.at (.bool b)), _) => b == g (UInt8.ofNat n)
  | _ => false
theorem byte_ok {f : Nat} {g : UInt8 → Bool} (h : (List.range 256).all (byteB f g) = true) (b : UInt8) (H : Heap) : Sim Try.prog f [at' (.int .u8 b.toNat)] H fun u G => u = at' (.bool (g b)) ∧ G = H := by
  have h1 := (List.all_eq_true.1 h) b.toNat (by simpa using b.toNat_lt)
  unfold byteB at h1
  split at h1
  · rename_i c X hx
    rw [beq_iff_eq, show UInt8.ofNat b.toNat = b from by simp] at h1
    subst h1
    exact Sim.of_run (run_sound 9) hx (by simp [plain, plain1, plainT]) rfl H
  · cases h1
theorem fnOk_of {f : Nat} {fn : Func} (h : Try.prog.funcs[f]? = some fn) (h1 : (fn.name == "runtime.NumGoroutine") = false) (h2 : fn.body.isNone = false) : FnOk Try.prog f := ⟨fn, h, h1, h2⟩
theorem isDigit_ok (b : UInt8) (H : Heap) : Sim Try.prog 73 [at' (.int .u8 b.toNat)] H fun u G => u = at' (.bool (isD b)) ∧ G = H := byte_ok (by decide +kernel) b H
theorem isLetter_ok (b : UInt8) (H : Heap) : Sim Try.prog 75 [at' (.int .u8 b.toNat)] H fun u G => u = at' (.bool (isL b)) ∧ G = H := byte_ok (by decide +kernel) b H
theorem b8 {b c : UInt8} : ((b.toNat : Int) = (c.toNat : Int)) ↔ b = c := by rw [Int.natCast_inj, UInt8.toNat_inj]
theorem b8e {b : UInt8} {n : Nat} (h : (b.toNat : Int) = n) (hn : n < 256) : b = UInt8.ofNat n := by
  apply UInt8.toNat_inj.1; rw [UInt8.toNat_ofNat_of_lt' hn]; exact Int.natCast_inj.1 h
theorem b8n {b : UInt8} {n : Nat} (h : (b.toNat : Int) ≠ n) (hn : n < 256) : b ≠ UInt8.ofNat n := by
  rintro rfl; rw [UInt8.toNat_ofNat_of_lt' hn] at h; exact h rfl
def wl : List UInt8 → Nat
  | [] => 0
  | b :: r => if (isL b || isD b) = true then wl r + 1 else 0
theorem wl_le : ∀ s, wl s ≤ s.length
  | [] => Nat.le_refl _
  | b :: r => by have := wl_le r; simp only [wl, List.length_cons]; split <;> omega
theorem wl_at {s : List UInt8} {n : Nat} {b : UInt8} (h : s[n]? = some b) : wl (s.drop n) = if (isL b || isD b) = true then wl (s.drop (n + 1)) + 1 else 0 := by rw [drop_at h]; rfl

theorem wordLen_ok (s : List UInt8) (H : Heap) (hs : s.length < 1000000) : Sim Try.prog 71 [at' (.str s)] H (fun u G => u = at' (.int .i64 (wl s)) ∧ G = H) := by
 refine Sim.of_tri Try.func71 rfl ?_
 show TrP 23 _ _ _ _
 refine Tri.seq ?_
 refine tR ?_
 refine sV rfl rfl rfl ?_
 show TrP 23 _ _ _ _
 refine tH [(0, _), (2, _)] ?_
 refine Tri.seq ?_
 refine tR ?_
 refine sV rfl rfl rfl ?_
 show TrP 23 _ _ _ _
 refine tH [(0, _), (2, _), (3, _)] ?_
 refine Tri.seq ?_
 refine Tri.block ?_
 refine Tri.loop (fun k lk1 H1 => ∃ n : Nat, k = s.length - n ∧ n ≤ s.length ∧ n + wl (s.drop n) = wl s ∧ Has lk1 [(0, at' (.str s)), (3, at' (.int .i64 n))] ∧ H = H1) (s.length) (⟨0, rfl, by omega, by simp, ⟨rfl, rfl, trivial⟩, rfl⟩) ?_
 rintro k lk1 H1 ⟨n, hk, hn, he, hh, rfl⟩
 refine Tri.has hh ?_
 refine Tri.seq ?_
 refine Tri.seq ?_
 refine tR ?_
 iterate 3 refine sV rfl rfl rfl ?_
 refine sO rfl rfl (oP rfl (fun h7 => ?_) (fun h7 => ?_))
 ·
  iterate 3 refine sV rfl rfl rfl ?_
  refine sO rfl rfl (oIdx rfl rfl rfl (by omega) (fun b11 hb11 => ?_))
  refine sO rfl rfl (oFB rfl (fnOk_of Try.func75 (by decide) rfl) (isLetter_ok _ _) (fun h12 => ?_) (fun h12 => ?_))
  ·
   refine sV rfl rfl rfl ?_
   iterate 4 refine sN rfl rfl ?_
   iterate 2 refine sV rfl rfl rfl ?_
   show TrP 23 _ _ _ _
   refine tH [(0, _), (3, _), (19, _)] ?_
   refine tT rfl ?_
   refine Tri.skip ?_
   show TrP 23 _ _ _ _
   refine tH [(0, _), (3, _), (19, _)] ?_
   refine Tri.block ?_
   refine tR ?_
   refine sV rfl rfl rfl ?_
   refine sO rfl rfl (oAdd (m := 1) rfl (by omega) ?_)
   refine sV rfl rfl rfl ?_
   refine ⟨s.length - (n + 1), by omega, n + 1, rfl, by omega, ?_, ⟨rfl, rfl, trivial⟩, rfl⟩
   try (rw [hb11] at hb16; cases hb16)
   rw [wl_at hb11] at he
   simp [*] at he
   omega
  ·
   iterate 3 refine sV rfl rfl rfl ?_
   refine sO rfl rfl (oIdx rfl rfl rfl (by omega) (fun b16 hb16 => ?_))
   refine sO rfl rfl (oFB rfl (fnOk_of Try.func73 (by decide) rfl) (isDigit_ok _ _) (fun h17 => ?_) (fun h17 => ?_))
   ·
    iterate 2 refine sV rfl rfl rfl ?_
    show TrP 23 _ _ _ _
    refine tH [(0, _), (3, _), (19, _)] ?_
    refine tT rfl ?_
    refine Tri.skip ?_
    show TrP 23 _ _ _ _
    refine tH [(0, _), (3, _), (19, _)] ?_
    refine Tri.block ?_
    refine tR ?_
    refine sV rfl rfl rfl ?_
    refine sO rfl rfl (oAdd (m := 1) rfl (by omega) ?_)
    refine sV rfl rfl rfl ?_
    refine ⟨s.length - (n + 1), by omega, n + 1, rfl, by omega, ?_, ⟨rfl, rfl, trivial⟩, rfl⟩
    try (rw [hb11] at hb16; cases hb16)
    rw [wl_at hb11] at he
    simp [*] at he
    omega
   ·
    iterate 2 refine sV rfl rfl rfl ?_
    show TrP 23 _ _ _ _
    refine tH [(0, _), (3, _), (19, _)] ?_
    refine tF rfl ?_
    refine Tri.exit ?_
    show TrP 23 _ _ _ _
    refine tH [(0, _), (3, _), (19, _)] ?_
    refine Tri.seq ?_
    refine tR ?_
    iterate 2 refine sV rfl rfl rfl ?_
    show TrP 23 _ _ _ _
    refine tH [(0, _), (2, _), (3, _), (19, _)] ?_
    refine Tri.ret ?_
    refine ⟨trivial, _, rfl, ?_⟩
    have h0 : wl (s.drop n) = 0 := by first | (rw [List.drop_eq_nil_of_le (by omega)]; rfl) | (rw [hb11] at hb16; cases hb16; rw [wl_at hb11, h12, h17]; rfl)
    have h1 : wl s = n := by omega
    rw [h1]; exact ⟨rfl, rfl⟩
 ·
  refine sV rfl rfl rfl ?_
  iterate 10 refine sN rfl rfl ?_
  refine sV rfl rfl rfl ?_
  show TrP 23 _ _ _ _
  refine tH [(0, _), (3, _), (19, _)] ?_
  refine tF rfl ?_
  refine Tri.exit ?_
  show TrP 23 _ _ _ _
  refine tH [(0, _), (3, _), (19, _)] ?_
  refine Tri.seq ?_
  refine tR ?_
  iterate 2 refine sV rfl rfl rfl ?_
  show TrP 23 _ _ _ _
  refine tH [(0, _), (2, _), (3, _), (19, _)] ?_
  refine Tri.ret ?_
  refine ⟨trivial, _, rfl, ?_⟩
  have h0 : wl (s.drop n) = 0 := by first | (rw [List.drop_eq_nil_of_le (by omega)]; rfl) | (rw [hb11] at hb16; cases hb16; rw [wl_at hb11, h12, h17]; rfl)
  have h1 : wl s = n := by omega
  rw [h1]; exact ⟨rfl, rfl⟩
def spB (b : UInt8) : Bool := b == 32 || (b == 9 || (b == 10 || b == 13))
def spL : Bool → List UInt8 → Nat
  | _, [] => 0
  | false, b :: r => if spB b = true then spL false r + 1 else if b = 35 then spL true r + 1 else 0
  | true, b :: r => if b = 10 then spL false r + 1 else spL true r + 1
theorem sp_at {s : List UInt8} {n : Nat} {b : UInt8} (c : Bool) (h : s[n]? = some b) : spL c (s.drop n) = match c with
    | false => if spB b = true then spL false (s.drop (n + 1)) + 1 else if b = 35 then spL true (s.drop (n + 1)) + 1 else 0
    | true => if b = 10 then spL false (s.drop (n + 1)) + 1 else spL true (s.drop (n + 1)) + 1 := by rw [drop_at h]; cases c <;> rfl
theorem spL_le : ∀ (s : List UInt8) (c : Bool), spL c s ≤ s.length
  | [], c => by cases c <;> exact Nat.le_refl _
  | b :: r, c => by
    have h1 := spL_le r true; have h2 := spL_le r false
    cases c <;> simp only [spL, List.length_cons] <;> (repeat' split) <;> omega

theorem spaceLen_ok (s : List UInt8) (H : Heap) (hs : s.length < 1000000) : Sim Try.prog 64 [at' (.str s)] H (fun u G => u = at' (.int .i64 (spL false s)) ∧ G = H) := by
 refine Sim.of_tri Try.func64 rfl ?_
 show TrP 34 _ _ _ _
 refine Tri.seq ?_
 refine tR ?_
 refine sV rfl rfl rfl ?_
 show TrP 34 _ _ _ _
 refine tH [(0, _), (2, _)] ?_
 refine Tri.seq ?_
 refine tR ?_
 refine sV rfl rfl rfl ?_
 show TrP 34 _ _ _ _
 refine tH [(0, _), (2, _), (3, _)] ?_
 refine Tri.seq ?_
 refine Tri.block ?_
 refine Tri.loop (fun k lk1 H1 => ∃ n : Nat, k = s.length - n ∧ n ≤ s.length ∧ n + spL false (s.drop n) = spL false s ∧ Has lk1 [(0, at' (.str s)), (3, at' (.int .i64 n))] ∧ H = H1) (s.length) (⟨0, rfl, by omega, by simp, ⟨rfl, rfl, trivial⟩, rfl⟩) ?_
 rintro k lk1 H1 ⟨n, hk, hn, he, hh, rfl⟩
 refine Tri.has hh ?_
 refine Tri.seq ?_
 refine Tri.seq ?_
 refine tR ?_
 iterate 3 refine sV rfl rfl rfl ?_
 refine sO rfl rfl (oP rfl (fun h7 => ?_) (fun h7 => ?_))
 ·
  show TrP 34 _ _ _ _
  refine tH [(0, _), (3, _), (7, _)] ?_
  refine tT rfl ?_
  refine Tri.skip ?_
  show TrP 34 _ _ _ _
  refine tH [(0, _), (3, _), (7, _)] ?_
  refine Tri.block ?_
  refine Tri.seq ?_
  refine tR ?_
  iterate 2 refine sV rfl rfl rfl ?_
  refine sO rfl rfl (oIdx rfl rfl rfl (by omega) (fun b10 hb10 => ?_))
  show TrP 34 _ _ _ _
  refine tH [(0, _), (3, _), (7, _), (10, _)] ?_
  refine Tri.block ?_
  refine Tri.seq ?_
  refine Tri.seq ?_
  refine tR ?_
  refine sO rfl rfl (oE rfl (fun h13 => ?_) (fun h13 => ?_))
  ·
   refine sV rfl rfl rfl ?_
   show TrP 34 _ _ _ _
   refine tH [(0, _), (3, _), (7, _), (10, _), (12, _)] ?_
   refine tT rfl ?_
   refine Tri.skip ?_
   show TrP 34 _ _ _ _
   refine tH [(0, _), (3, _), (7, _), (10, _), (12, _)] ?_
   refine tT rfl ?_
   refine tR ?_
   refine sV rfl rfl rfl ?_
   refine sO rfl rfl (oAdd (m := 1) rfl (by omega) ?_)
   refine sV rfl rfl rfl ?_
   refine ⟨s.length - (n + 1), by omega, n + 1, rfl, by omega, ?_, ⟨rfl, rfl, trivial⟩, rfl⟩
   first
     | (have e := b8e (n := 32) h13 (by omega); subst e)
     | (have e := b8e (n := 9) h14 (by omega); subst e)
     | (have e := b8e (n := 10) h15 (by omega); subst e)
     | (have e := b8e (n := 13) h16 (by omega); subst e)
   all_goals (rw [sp_at false hb10] at he; have e : n + (spL false (s.drop (n + 1)) + 1) = spL false s := he; omega)
  ·
   refine sV rfl rfl rfl ?_
   show TrP 34 _ _ _ _
   refine tH [(0, _), (3, _), (7, _), (10, _), (12, _)] ?_
   refine tF rfl ?_
   refine Tri.seq ?_
   refine tR ?_
   refine sO rfl rfl (oE rfl (fun h14 => ?_) (fun h14 => ?_))
   ·
    refine sV rfl rfl rfl ?_
    show TrP 34 _ _ _ _
    refine tH [(0, _), (3, _), (7, _), (10, _), (12, _)] ?_
    refine tT rfl ?_
    refine Tri.skip ?_
    show TrP 34 _ _ _ _
    refine tH [(0, _), (3, _), (7, _), (10, _), (12, _)] ?_
    refine tT rfl ?_
    refine tR ?_
    refine sV rfl rfl rfl ?_
    refine sO rfl rfl (oAdd (m := 1) rfl (by omega) ?_)
    refine sV rfl rfl rfl ?_
    refine ⟨s.length - (n + 1), by omega, n + 1, rfl, by omega, ?_, ⟨rfl, rfl, trivial⟩, rfl⟩
    first
      | (have e := b8e (n := 32) h13 (by omega); subst e)
      | (have e := b8e (n := 9) h14 (by omega); subst e)
      | (have e := b8e (n := 10) h15 (by omega); subst e)
      | (have e := b8e (n := 13) h16 (by omega); subst e)
    all_goals (rw [sp_at false hb10] at he; have e : n + (spL false (s.drop (n + 1)) + 1) = spL false s := he; omega)
   ·
    refine sV rfl rfl rfl ?_
    show TrP 34 _ _ _ _
    refine tH [(0, _), (3, _), (7, _), (10, _), (12, _)] ?_
    refine tF rfl ?_
    refine Tri.seq ?_
    refine tR ?_
    refine sO rfl rfl (oE rfl (fun h15 => ?_) (fun h15 => ?_))
    ·
     refine sV rfl rfl rfl ?_
     show TrP 34 _ _ _ _
     refine tH [(0, _), (3, _), (7, _), (10, _), (12, _)] ?_
     refine tT rfl ?_
     refine Tri.skip ?_
     show TrP 34 _ _ _ _
     refine tH [(0, _), (3, _), (7, _), (10, _), (12, _)] ?_
     refine tT rfl ?_
     refine tR ?_
     refine sV rfl rfl rfl ?_
     refine sO rfl rfl (oAdd (m := 1) rfl (by omega) ?_)
     refine sV rfl rfl rfl ?_
     refine ⟨s.length - (n + 1), by omega, n + 1, rfl, by omega, ?_, ⟨rfl, rfl, trivial⟩, rfl⟩
     first
       | (have e := b8e (n := 32) h13 (by omega); subst e)
       | (have e := b8e (n := 9) h14 (by omega); subst e)
       | (have e := b8e (n := 10) h15 (by omega); subst e)
       | (have e := b8e (n := 13) h16 (by omega); subst e)
     all_goals (rw [sp_at false hb10] at he; have e : n + (spL false (s.drop (n + 1)) + 1) = spL false s := he; omega)
    ·
     refine sV rfl rfl rfl ?_
     show TrP 34 _ _ _ _
     refine tH [(0, _), (3, _), (7, _), (10, _), (12, _)] ?_
     refine tF rfl ?_
     refine tR ?_
     refine sO rfl rfl (oE rfl (fun h16 => ?_) (fun h16 => ?_))
     ·
      refine sV rfl rfl rfl ?_
      show TrP 34 _ _ _ _
      refine tH [(0, _), (3, _), (7, _), (10, _), (12, _)] ?_
      refine tT rfl ?_
      refine tR ?_
      refine sV rfl rfl rfl ?_
      refine sO rfl rfl (oAdd (m := 1) rfl (by omega) ?_)
      refine sV rfl rfl rfl ?_
      refine ⟨s.length - (n + 1), by omega, n + 1, rfl, by omega, ?_, ⟨rfl, rfl, trivial⟩, rfl⟩
      first
        | (have e := b8e (n := 32) h13 (by omega); subst e)
        | (have e := b8e (n := 9) h14 (by omega); subst e)
        | (have e := b8e (n := 10) h15 (by omega); subst e)
        | (have e := b8e (n := 13) h16 (by omega); subst e)
      all_goals (rw [sp_at false hb10] at he; have e : n + (spL false (s.drop (n + 1)) + 1) = spL false s := he; omega)
     ·
      refine sV rfl rfl rfl ?_
      show TrP 34 _ _ _ _
      refine tH [(0, _), (3, _), (7, _), (10, _), (12, _)] ?_
      refine tF rfl ?_
      refine Tri.seq ?_
      refine tR ?_
      refine sO rfl rfl (oE rfl (fun h20 => ?_) (fun h20 => ?_))
      ·
       refine sV rfl rfl rfl ?_
       show TrP 34 _ _ _ _
       refine tH [(0, _), (3, _), (7, _), (10, _), (12, _), (19, _)] ?_
       refine tT rfl ?_
       refine Tri.block ?_
       refine Tri.loop (fun k lk1 H1 => ∃ m : Nat, k = s.length - m ∧ n ≤ m ∧ m ≤ s.length ∧ m + spL true (s.drop m) = spL false s ∧ Has lk1 [(0, at' (.str s)), (3, at' (.int .i64 m))] ∧ H = H1) (s.length - n) (⟨n, rfl, by omega, by omega, by (have e := b8e (n := 35) h20 (by omega); subst e; rw [sp_at true hb10]; rw [sp_at false hb10] at he; exact he), ⟨rfl, rfl, trivial⟩, rfl⟩) ?_
       rintro k lk1 H1 ⟨m, hkm, hnm, hm, hem, hh2, rfl⟩
       refine Tri.has hh2 ?_
       refine Tri.seq ?_
       refine Tri.seq ?_
       refine tR ?_
       iterate 3 refine sV rfl rfl rfl ?_
       refine sO rfl rfl (oP rfl (fun h24 => ?_) (fun h24 => ?_))
       ·
        iterate 3 refine sV rfl rfl rfl ?_
        refine sO rfl rfl (oIdx rfl rfl rfl (by omega) (fun b28 hb28 => ?_))
        refine sO rfl rfl (oNE rfl (fun h29 => ?_) (fun h29 => ?_))
        ·
         refine sV rfl rfl rfl ?_
         show TrP 34 _ _ _ _
         refine tH [(0, _), (3, _), (30, _)] ?_
         refine tT rfl ?_
         refine Tri.skip ?_
         show TrP 34 _ _ _ _
         refine tH [(0, _), (3, _), (30, _)] ?_
         refine Tri.block ?_
         refine tR ?_
         refine sV rfl rfl rfl ?_
         refine sO rfl rfl (oAdd (m := 1) rfl (by omega) ?_)
         refine sV rfl rfl rfl ?_
         refine ⟨s.length - (m + 1), by omega, m + 1, rfl, by omega, by omega, ?_, ⟨rfl, rfl, trivial⟩, rfl⟩
         have e : b28 ≠ 10 := b8n (n := 10) h29 (by omega)
         rw [sp_at true hb28] at hem
         simp only [] at hem
         rw [if_neg e] at hem
         omega
        ·
         refine sV rfl rfl rfl ?_
         show TrP 34 _ _ _ _
         refine tH [(0, _), (3, _), (30, _)] ?_
         refine tF rfl ?_
         refine Tri.exit ?_
         have hlt : n < m := by
           rcases Nat.lt_or_ge n m with h | h
           · exact h
           · exfalso
             have hx : m = n := by omega
             subst hx
             first
               | omega
               | (rw [hb10] at hb28; cases hb28; omega)
         refine ⟨s.length - m, by omega, m, rfl, by omega, ?_, ⟨rfl, rfl, trivial⟩, rfl⟩
         first
           | (rw [List.drop_eq_nil_of_le (show s.length ≤ m from by omega)] at hem ⊢; exact hem)
           | (have e := b8e (n := 10) h29 (by omega); subst e; rw [sp_at true hb28] at hem; rw [sp_at false hb28]; simp only [spB]; simpa using hem)
       ·
        refine sV rfl rfl rfl ?_
        iterate 4 refine sN rfl rfl ?_
        refine sV rfl rfl rfl ?_
        show TrP 34 _ _ _ _
        refine tH [(0, _), (3, _), (30, _)] ?_
        refine tF rfl ?_
        refine Tri.exit ?_
        have hlt : n < m := by
          rcases Nat.lt_or_ge n m with h | h
          · exact h
          · exfalso
            have hx : m = n := by omega
            subst hx
            first
              | omega
              | (rw [hb10] at hb28; cases hb28; omega)
        refine ⟨s.length - m, by omega, m, rfl, by omega, ?_, ⟨rfl, rfl, trivial⟩, rfl⟩
        first
          | (rw [List.drop_eq_nil_of_le (show s.length ≤ m from by omega)] at hem ⊢; exact hem)
          | (have e := b8e (n := 10) h29 (by omega); subst e; rw [sp_at true hb28] at hem; rw [sp_at false hb28]; simp only [spB]; simpa using hem)
      ·
       refine sV rfl rfl rfl ?_
       show TrP 34 _ _ _ _
       refine tH [(0, _), (3, _), (7, _), (10, _), (12, _), (19, _)] ?_
       refine tF rfl ?_
       refine Tri.seq ?_
       refine tR ?_
       iterate 2 refine sV rfl rfl rfl ?_
       show TrP 34 _ _ _ _
       refine tH [(0, _), (2, _), (3, _), (7, _), (10, _), (12, _), (19, _)] ?_
       refine Tri.ret ?_
       refine ⟨trivial, _, rfl, ?_⟩
       have h0 : spL false (s.drop n) = 0 := by
         have e13 := b8n (n := 32) h13 (by omega); have e14 := b8n (n := 9) h14 (by omega); have e15 := b8n (n := 10) h15 (by omega); have e16 := b8n (n := 13) h16 (by omega); have e20 := b8n (n := 35) h20 (by omega)
         rw [sp_at false hb10]; simp only [spB]; simp [show b10 ≠ 32 from e13, show b10 ≠ 9 from e14, show b10 ≠ 10 from e15, show b10 ≠ 13 from e16, show b10 ≠ 35 from e20]
       have h1 : spL false s = n := by omega
       rw [h1]; exact ⟨rfl, rfl⟩
 ·
  show TrP 34 _ _ _ _
  refine tH [(0, _), (3, _), (7, _)] ?_
  refine tF rfl ?_
  refine Tri.exit ?_
  show TrP 34 _ _ _ _
  refine tH [(0, _), (3, _), (7, _)] ?_
  refine Tri.seq ?_
  refine tR ?_
  iterate 2 refine sV rfl rfl rfl ?_
  show TrP 34 _ _ _ _
  refine tH [(0, _), (2, _), (3, _), (7, _)] ?_
  refine Tri.ret ?_
  refine ⟨trivial, _, rfl, ?_⟩
  have h0 : spL false (s.drop n) = 0 := by rw [List.drop_eq_nil_of_le (by omega)]; rfl
  have h1 : spL false s = n := by omega
  rw [h1]; exact ⟨rfl, rfl⟩
def mostL : List UInt8 := [57, 50, 50, 51, 51, 55, 50, 48, 51, 54, 56, 53, 52, 55, 55, 53, 56, 48, 56]
noncomputable def validN (s : List UInt8) : Bool := s.all isD && ((!decide (s.head? = some 48) || decide (s.length = 1)) && (decide (s.length < 19) || (decide (s.length = 19) && (Op.bytesLess s mostL || eqS s mostL))))
theorem all_snoc {A : Type} {p : A → Bool} {s : List A} {n : Nat} {b : A} (h : (s.take n).all p = true) (hb : s[n]? = some b) (hp : p b = true) : (s.take (n + 1)).all p = true := by
  rw [List.take_add_one, hb, List.all_append, h]; simp [hp]
theorem all_no {A : Type} {p : A → Bool} {s : List A} {n : Nat} {b : A} (hb : s[n]? = some b) (hp : p b = false) : s.all p = false := by
  rw [List.all_eq_false]; exact ⟨b, List.mem_of_getElem? hb, by simp [hp]⟩

theorem validNumber_ok (s : List UInt8) (H : Heap) (hs : s.length < 1000000) (h0 : 0 < s.length) : Sim Try.prog 74 [at' (.str s)] H (fun u G => u = at' (.bool (validN s)) ∧ G = H) := by
 refine Sim.of_tri Try.func74 rfl ?_
 show TrP 37 _ _ _ _
 refine Tri.seq ?_
 refine tR ?_
 refine sV rfl rfl rfl ?_
 show TrP 37 _ _ _ _
 refine tH [(0, _), (2, _)] ?_
 refine Tri.seq ?_
 refine Tri.seq ?_
 refine tR ?_
 refine sV rfl rfl rfl ?_
 show TrP 37 _ _ _ _
 refine tH [(0, _), (2, _), (3, _)] ?_
 refine Tri.block ?_
 refine Tri.loop (fun k lk1 H1 => ∃ n : Nat, k = s.length - n ∧ n ≤ s.length ∧ (s.take n).all isD = true ∧ Has lk1 [(0, at' (.str s)), (3, at' (.int .i64 n))] ∧ H = H1) (s.length) (⟨0, rfl, by omega, by simp, ⟨rfl, rfl, trivial⟩, rfl⟩) ?_
 rintro k lk1 H1 ⟨n, hk, hn, he, hh, rfl⟩
 refine Tri.has hh ?_
 refine Tri.seq ?_
 refine Tri.seq ?_
 refine tR ?_
 iterate 3 refine sV rfl rfl rfl ?_
 refine sO rfl rfl (oP rfl (fun h7 => ?_) (fun h7 => ?_))
 ·
  show TrP 37 _ _ _ _
  refine tH [(0, _), (3, _), (7, _)] ?_
  refine tT rfl ?_
  refine Tri.skip ?_
  show TrP 37 _ _ _ _
  refine tH [(0, _), (3, _), (7, _)] ?_
  refine Tri.seq ?_
  refine Tri.block ?_
  refine Tri.seq ?_
  refine tR ?_
  iterate 2 refine sV rfl rfl rfl ?_
  refine sO rfl rfl (oIdx rfl rfl rfl (by omega) (fun b12 hb12 => ?_))
  refine sO rfl rfl (oFB rfl (fnOk_of Try.func73 (by decide) rfl) (isDigit_ok _ _) (fun h13 => ?_) (fun h13 => ?_))
  ·
   refine sV rfl rfl rfl ?_
   show TrP 37 _ _ _ _
   refine tH [(0, _), (3, _), (7, _), (14, _)] ?_
   refine tF rfl ?_
   refine Tri.skip ?_
   show TrP 37 _ _ _ _
   refine tH [(0, _), (3, _), (7, _), (14, _)] ?_
   refine tR ?_
   refine sV rfl rfl rfl ?_
   refine sO rfl rfl (oAdd (m := 1) rfl (by omega) ?_)
   refine sV rfl rfl rfl ?_
   refine ⟨s.length - (n + 1), by omega, n + 1, rfl, by omega, ?_, ⟨rfl, rfl, trivial⟩, rfl⟩
   exact all_snoc he hb12 h13
  ·
   refine sV rfl rfl rfl ?_
   show TrP 37 _ _ _ _
   refine tH [(0, _), (3, _), (7, _), (14, _)] ?_
   refine tT rfl ?_
   refine Tri.seq ?_
   refine tR ?_
   refine sV rfl rfl rfl ?_
   show TrP 37 _ _ _ _
   refine tH [(0, _), (2, _), (3, _), (7, _), (14, _)] ?_
   refine Tri.ret ?_
   refine ⟨trivial, _, rfl, ?_⟩
   have e : validN s = false := by unfold validN; rw [all_no hb12 h13]; rfl
   rw [e]; exact ⟨rfl, rfl⟩
 ·
  show TrP 37 _ _ _ _
  refine tH [(0, _), (3, _), (7, _)] ?_
  refine tF rfl ?_
  refine Tri.exit ?_
  show TrP 37 _ _ _ _
  refine tH [(0, _), (3, _), (7, _)] ?_
  refine Tri.seq ?_
  refine tR ?_
  refine sV rfl rfl rfl ?_
  refine sO rfl rfl (oIdx (n := 0) rfl rfl rfl (by omega) (fun b16 hb16 => ?_))
  refine sO rfl rfl (oNE rfl (fun h17 => ?_) (fun h17 => ?_))
  ·
   refine sV rfl rfl rfl ?_
   iterate 3 refine sN rfl rfl ?_
   iterate 4 refine sV rfl rfl rfl ?_
   refine sO rfl rfl (oP rfl (fun h26 => ?_) (fun h26 => ?_))
   ·
    refine sV rfl rfl rfl ?_
    iterate 7 refine sN rfl rfl ?_
    iterate 3 refine sV rfl rfl rfl ?_
    show TrP 37 _ _ _ _
    refine tH [(0, _), (2, _), (3, _), (7, _)] ?_
    refine Tri.ret ?_
    refine ⟨trivial, _, rfl, ?_⟩
    have ha : s.all isD = true := by rw [List.take_of_length_le (by omega)] at he; exact he
    have hd : (s.head? = some 48) ↔ b16 = 48 := by rw [List.head?_eq_getElem?, hb16]; simp
    have hx : b16 = 48 ↔ ((b16.toNat : Int) = 48) := (b8 (b := b16) (c := 48)).symm
    refine ⟨congrArg (fun b => at' (.bool b)) (?_ : _ = validN s), rfl⟩
    have hy : (s.length = 1) ↔ ((s.length : Int) = 1) := by omega
    have hz : (s.length < 19) ↔ ((s.length : Int) < 19) := by omega
    have hw : (s.length = 19) ↔ ((s.length : Int) = 19) := by omega
    simp only [validN, ha, decide_eq_decide.2 hd, decide_eq_decide.2 hx, decide_eq_decide.2 hy, decide_eq_decide.2 hz, decide_eq_decide.2 hw]
    clear he hk hn hh hd hx hy hz hw ha hs h0 h7
    first
      | (simp_all; done)
      | (rw [show (Op.bytesLess s mostL || eqS s mostL) = true from h33]; simp_all; done)
      | (rw [show (Op.bytesLess s mostL || eqS s mostL) = false from h33]; simp_all; done)
   ·
    iterate 3 refine sV rfl rfl rfl ?_
    refine sO rfl rfl (oE rfl (fun h30 => ?_) (fun h30 => ?_))
    ·
     iterate 2 refine sV rfl rfl rfl ?_
     refine sO rfl rfl (oB rfl (fun h33 => ?_) (fun h33 => ?_))
     ·
      iterate 4 refine sV rfl rfl rfl ?_
      show TrP 37 _ _ _ _
      refine tH [(0, _), (2, _), (3, _), (7, _)] ?_
      refine Tri.ret ?_
      refine ⟨trivial, _, rfl, ?_⟩
      have ha : s.all isD = true := by rw [List.take_of_length_le (by omega)] at he; exact he
      have hd : (s.head? = some 48) ↔ b16 = 48 := by rw [List.head?_eq_getElem?, hb16]; simp
      have hx : b16 = 48 ↔ ((b16.toNat : Int) = 48) := (b8 (b := b16) (c := 48)).symm
      refine ⟨congrArg (fun b => at' (.bool b)) (?_ : _ = validN s), rfl⟩
      have hy : (s.length = 1) ↔ ((s.length : Int) = 1) := by omega
      have hz : (s.length < 19) ↔ ((s.length : Int) < 19) := by omega
      have hw : (s.length = 19) ↔ ((s.length : Int) = 19) := by omega
      simp only [validN, ha, decide_eq_decide.2 hd, decide_eq_decide.2 hx, decide_eq_decide.2 hy, decide_eq_decide.2 hz, decide_eq_decide.2 hw]
      clear he hk hn hh hd hx hy hz hw ha hs h0 h7
      first
        | (simp_all; done)
        | (rw [show (Op.bytesLess s mostL || eqS s mostL) = true from h33]; simp_all; done)
        | (rw [show (Op.bytesLess s mostL || eqS s mostL) = false from h33]; simp_all; done)
     ·
      iterate 4 refine sV rfl rfl rfl ?_
      show TrP 37 _ _ _ _
      refine tH [(0, _), (2, _), (3, _), (7, _)] ?_
      refine Tri.ret ?_
      refine ⟨trivial, _, rfl, ?_⟩
      have ha : s.all isD = true := by rw [List.take_of_length_le (by omega)] at he; exact he
      have hd : (s.head? = some 48) ↔ b16 = 48 := by rw [List.head?_eq_getElem?, hb16]; simp
      have hx : b16 = 48 ↔ ((b16.toNat : Int) = 48) := (b8 (b := b16) (c := 48)).symm
      refine ⟨congrArg (fun b => at' (.bool b)) (?_ : _ = validN s), rfl⟩
      have hy : (s.length = 1) ↔ ((s.length : Int) = 1) := by omega
      have hz : (s.length < 19) ↔ ((s.length : Int) < 19) := by omega
      have hw : (s.length = 19) ↔ ((s.length : Int) = 19) := by omega
      simp only [validN, ha, decide_eq_decide.2 hd, decide_eq_decide.2 hx, decide_eq_decide.2 hy, decide_eq_decide.2 hz, decide_eq_decide.2 hw]
      clear he hk hn hh hd hx hy hz hw ha hs h0 h7
      first
        | (simp_all; done)
        | (rw [show (Op.bytesLess s mostL || eqS s mostL) = true from h33]; simp_all; done)
        | (rw [show (Op.bytesLess s mostL || eqS s mostL) = false from h33]; simp_all; done)
    ·
     refine sV rfl rfl rfl ?_
     iterate 2 refine sN rfl rfl ?_
     iterate 4 refine sV rfl rfl rfl ?_
     show TrP 37 _ _ _ _
     refine tH [(0, _), (2, _), (3, _), (7, _)] ?_
     refine Tri.ret ?_
     refine ⟨trivial, _, rfl, ?_⟩
     have ha : s.all isD = true := by rw [List.take_of_length_le (by omega)] at he; exact he
     have hd : (s.head? = some 48) ↔ b16 = 48 := by rw [List.head?_eq_getElem?, hb16]; simp
     have hx : b16 = 48 ↔ ((b16.toNat : Int) = 48) := (b8 (b := b16) (c := 48)).symm
     refine ⟨congrArg (fun b => at' (.bool b)) (?_ : _ = validN s), rfl⟩
     have hy : (s.length = 1) ↔ ((s.length : Int) = 1) := by omega
     have hz : (s.length < 19) ↔ ((s.length : Int) < 19) := by omega
     have hw : (s.length = 19) ↔ ((s.length : Int) = 19) := by omega
     simp only [validN, ha, decide_eq_decide.2 hd, decide_eq_decide.2 hx, decide_eq_decide.2 hy, decide_eq_decide.2 hz, decide_eq_decide.2 hw]
     clear he hk hn hh hd hx hy hz hw ha hs h0 h7
     first
       | (simp_all; done)
       | (rw [show (Op.bytesLess s mostL || eqS s mostL) = true from h33]; simp_all; done)
       | (rw [show (Op.bytesLess s mostL || eqS s mostL) = false from h33]; simp_all; done)
  ·
   iterate 3 refine sV rfl rfl rfl ?_
   refine sO rfl rfl (oE rfl (fun h21 => ?_) (fun h21 => ?_))
   ·
    iterate 4 refine sV rfl rfl rfl ?_
    refine sO rfl rfl (oP rfl (fun h26 => ?_) (fun h26 => ?_))
    ·
     refine sV rfl rfl rfl ?_
     iterate 7 refine sN rfl rfl ?_
     iterate 3 refine sV rfl rfl rfl ?_
     show TrP 37 _ _ _ _
     refine tH [(0, _), (2, _), (3, _), (7, _)] ?_
     refine Tri.ret ?_
     refine ⟨trivial, _, rfl, ?_⟩
     have ha : s.all isD = true := by rw [List.take_of_length_le (by omega)] at he; exact he
     have hd : (s.head? = some 48) ↔ b16 = 48 := by rw [List.head?_eq_getElem?, hb16]; simp
     have hx : b16 = 48 ↔ ((b16.toNat : Int) = 48) := (b8 (b := b16) (c := 48)).symm
     refine ⟨congrArg (fun b => at' (.bool b)) (?_ : _ = validN s), rfl⟩
     have hy : (s.length = 1) ↔ ((s.length : Int) = 1) := by omega
     have hz : (s.length < 19) ↔ ((s.length : Int) < 19) := by omega
     have hw : (s.length = 19) ↔ ((s.length : Int) = 19) := by omega
     simp only [validN, ha, decide_eq_decide.2 hd, decide_eq_decide.2 hx, decide_eq_decide.2 hy, decide_eq_decide.2 hz, decide_eq_decide.2 hw]
     clear he hk hn hh hd hx hy hz hw ha hs h0 h7
     first
       | (simp_all; done)
       | (rw [show (Op.bytesLess s mostL || eqS s mostL) = true from h33]; simp_all; done)
       | (rw [show (Op.bytesLess s mostL || eqS s mostL) = false from h33]; simp_all; done)
    ·
     iterate 3 refine sV rfl rfl rfl ?_
     refine sO rfl rfl (oE rfl (fun h30 => ?_) (fun h30 => ?_))
     ·
      iterate 2 refine sV rfl rfl rfl ?_
      refine sO rfl rfl (oB rfl (fun h33 => ?_) (fun h33 => ?_))
      ·
       iterate 4 refine sV rfl rfl rfl ?_
       show TrP 37 _ _ _ _
       refine tH [(0, _), (2, _), (3, _), (7, _)] ?_
       refine Tri.ret ?_
       refine ⟨trivial, _, rfl, ?_⟩
       have ha : s.all isD = true := by rw [List.take_of_length_le (by omega)] at he; exact he
       have hd : (s.head? = some 48) ↔ b16 = 48 := by rw [List.head?_eq_getElem?, hb16]; simp
       have hx : b16 = 48 ↔ ((b16.toNat : Int) = 48) := (b8 (b := b16) (c := 48)).symm
       refine ⟨congrArg (fun b => at' (.bool b)) (?_ : _ = validN s), rfl⟩
       have hy : (s.length = 1) ↔ ((s.length : Int) = 1) := by omega
       have hz : (s.length < 19) ↔ ((s.length : Int) < 19) := by omega
       have hw : (s.length = 19) ↔ ((s.length : Int) = 19) := by omega
       simp only [validN, ha, decide_eq_decide.2 hd, decide_eq_decide.2 hx, decide_eq_decide.2 hy, decide_eq_decide.2 hz, decide_eq_decide.2 hw]
       clear he hk hn hh hd hx hy hz hw ha hs h0 h7
       first
         | (simp_all; done)
         | (rw [show (Op.bytesLess s mostL || eqS s mostL) = true from h33]; simp_all; done)
         | (rw [show (Op.bytesLess s mostL || eqS s mostL) = false from h33]; simp_all; done)
      ·
       iterate 4 refine sV rfl rfl rfl ?_
       show TrP 37 _ _ _ _
       refine tH [(0, _), (2, _), (3, _), (7, _)] ?_
       refine Tri.ret ?_
       refine ⟨trivial, _, rfl, ?_⟩
       have ha : s.all isD = true := by rw [List.take_of_length_le (by omega)] at he; exact he
       have hd : (s.head? = some 48) ↔ b16 = 48 := by rw [List.head?_eq_getElem?, hb16]; simp
       have hx : b16 = 48 ↔ ((b16.toNat : Int) = 48) := (b8 (b := b16) (c := 48)).symm
       refine ⟨congrArg (fun b => at' (.bool b)) (?_ : _ = validN s), rfl⟩
       have hy : (s.length = 1) ↔ ((s.length : Int) = 1) := by omega
       have hz : (s.length < 19) ↔ ((s.length : Int) < 19) := by omega
       have hw : (s.length = 19) ↔ ((s.length : Int) = 19) := by omega
       simp only [validN, ha, decide_eq_decide.2 hd, decide_eq_decide.2 hx, decide_eq_decide.2 hy, decide_eq_decide.2 hz, decide_eq_decide.2 hw]
       clear he hk hn hh hd hx hy hz hw ha hs h0 h7
       first
         | (simp_all; done)
         | (rw [show (Op.bytesLess s mostL || eqS s mostL) = true from h33]; simp_all; done)
         | (rw [show (Op.bytesLess s mostL || eqS s mostL) = false from h33]; simp_all; done)
     ·
      refine sV rfl rfl rfl ?_
      iterate 2 refine sN rfl rfl ?_
      iterate 4 refine sV rfl rfl rfl ?_
      show TrP 37 _ _ _ _
      refine tH [(0, _), (2, _), (3, _), (7, _)] ?_
      refine Tri.ret ?_
      refine ⟨trivial, _, rfl, ?_⟩
      have ha : s.all isD = true := by rw [List.take_of_length_le (by omega)] at he; exact he
      have hd : (s.head? = some 48) ↔ b16 = 48 := by rw [List.head?_eq_getElem?, hb16]; simp
      have hx : b16 = 48 ↔ ((b16.toNat : Int) = 48) := (b8 (b := b16) (c := 48)).symm
      refine ⟨congrArg (fun b => at' (.bool b)) (?_ : _ = validN s), rfl⟩
      have hy : (s.length = 1) ↔ ((s.length : Int) = 1) := by omega
      have hz : (s.length < 19) ↔ ((s.length : Int) < 19) := by omega
      have hw : (s.length = 19) ↔ ((s.length : Int) = 19) := by omega
      simp only [validN, ha, decide_eq_decide.2 hd, decide_eq_decide.2 hx, decide_eq_decide.2 hy, decide_eq_decide.2 hz, decide_eq_decide.2 hw]
      clear he hk hn hh hd hx hy hz hw ha hs h0 h7
      first
        | (simp_all; done)
        | (rw [show (Op.bytesLess s mostL || eqS s mostL) = true from h33]; simp_all; done)
        | (rw [show (Op.bytesLess s mostL || eqS s mostL) = false from h33]; simp_all; done)
   ·
    iterate 2 refine sV rfl rfl rfl ?_
    iterate 12 refine sN rfl rfl ?_
    iterate 2 refine sV rfl rfl rfl ?_
    show TrP 37 _ _ _ _
    refine tH [(0, _), (2, _), (3, _), (7, _)] ?_
    refine Tri.ret ?_
    refine ⟨trivial, _, rfl, ?_⟩
    have ha : s.all isD = true := by rw [List.take_of_length_le (by omega)] at he; exact he
    have hd : (s.head? = some 48) ↔ b16 = 48 := by rw [List.head?_eq_getElem?, hb16]; simp
    have hx : b16 = 48 ↔ ((b16.toNat : Int) = 48) := (b8 (b := b16) (c := 48)).symm
    refine ⟨congrArg (fun b => at' (.bool b)) (?_ : _ = validN s), rfl⟩
    have hy : (s.length = 1) ↔ ((s.length : Int) = 1) := by omega
    have hz : (s.length < 19) ↔ ((s.length : Int) < 19) := by omega
    have hw : (s.length = 19) ↔ ((s.length : Int) = 19) := by omega
    simp only [validN, ha, decide_eq_decide.2 hd, decide_eq_decide.2 hx, decide_eq_decide.2 hy, decide_eq_decide.2 hz, decide_eq_decide.2 hw]
    clear he hk hn hh hd hx hy hz hw ha hs h0 h7
    first
      | (simp_all; done)
      | (rw [show (Op.bytesLess s mostL || eqS s mostL) = true from h33]; simp_all; done)
      | (rw [show (Op.bytesLess s mostL || eqS s mostL) = false from h33]; simp_all; done)
def longS : List (List UInt8) := [[62, 62, 62], [60, 60], [62, 62], [60, 61], [62, 61], [61, 61], [33, 61]]
def singleS : List UInt8 := [43, 45, 42, 47, 37, 38, 124, 94, 126, 33, 60, 62, 61, 63, 58, 59, 44, 40, 41, 123, 125, 91, 93]
def symL (s : List UInt8) : Nat := match longS.find? (fun w => decide (s.take w.length = w)) with
  | some w => w.length
  | none => if singleS.any (fun x => decide (s.head? = some x)) = true then 1 else 0
theorem find_at {A : Type} {p : A → Bool} : ∀ {l : List A} {n : Nat} {w : A}, (∀ x ∈ l.take n, p x = false) → l[n]? = some w → p w = true → l.find? p = some w
  | [], n, w, _, h, _ => by simp at h
  | a :: l, 0, w, _, h, hp => by simp at h; subst h; simp [hp]
  | a :: l, n + 1, w, hn, h, hp => by
    have h1 : p a = false := hn a (by simp)
    rw [List.find?_cons, h1]
    exact find_at (n := n) (fun x hx => hn x (by simp [hx])) (by simpa using h) hp
theorem take_no {A : Type} {p : A → Bool} {l : List A} {n : Nat} {w : A} (h : ∀ x ∈ l.take n, p x = false) (hw : l[n]? = some w) (hp : p w = false) : ∀ x ∈ l.take (n + 1), p x = false := by
  intro x hx
  rw [List.take_add_one, hw] at hx
  simp only [List.mem_append, Option.mem_toList] at hx
  rcases hx with hx | hx
  · exact h x hx
  · cases hx; exact hp
theorem find_no {A : Type} {p : A → Bool} {l : List A} (h : ∀ x ∈ l, p x = false) : l.find? p = none := by
  rw [List.find?_eq_none]; intro x hx; simp [h x hx]
theorem any_no {A : Type} {p : A → Bool} {l : List A} (h : ∀ x ∈ l, p x = false) : l.any p = false := by
  rw [List.any_eq_false]; intro x hx; simp [h x hx]

theorem symbolLen_ok (s : List UInt8) (H : Heap) (hs : s.length < 1000000) (h0 : 0 < s.length) : Sim Try.prog 72 [at' (.str s)] H (fun u G => u = at' (.int .i64 (symL s)) ∧ G = H) := by
 refine Sim.trim ?_
 refine Sim.of_tri Try.func72 rfl ?_
 show TrP 35 _ _ _ _
 refine Tri.seq ?_
 refine tR ?_
 refine sV rfl rfl rfl ?_
 show TrP 35 _ _ _ _
 refine tH [(0, _), (2, _)] ?_
 refine Tri.seq ?_
 refine Tri.seq ?_
 refine tR ?_
 refine sO rfl rfl (oW (.one (.agg [_, _, _, _, _, _, _])) rfl rfl ?_)
 refine sV rfl rfl rfl ?_
 show TrP 35 _ _ _ _
 refine tH [(0, _), (2, _), (6, _), (7, _)] ?_
 refine Tri.block ?_
 refine Tri.loop (fun k lk1 H1 => ∃ n : Nat, k = 7 - n ∧ n ≤ 7 ∧ (∀ x ∈ longS.take n, decide (s.take x.length = x) = false) ∧ Has lk1 [(0, at' (.str s)), (6, .one (.agg (longS.map AT.str))), (7, at' (.int .i64 n))] ∧ H = H1) (7) (⟨0, rfl, by omega, by simp, ⟨rfl, rfl, rfl, trivial⟩, rfl⟩) ?_
 rintro k lk1 H1 ⟨n, hk, hn, hp, hh, rfl⟩
 refine Tri.has hh ?_
 refine Tri.seq ?_
 refine tR ?_
 refine sO rfl rfl (oP rfl (fun h8 => ?_) (fun h8 => ?_))
 ·
  show TrP 35 _ _ _ _
  refine tH [(0, _), (6, _), (7, _), (8, _)] ?_
  refine Tri.seq ?_
  refine tT rfl ?_
  refine Tri.skip ?_
  show TrP 35 _ _ _ _
  refine tH [(0, _), (6, _), (7, _), (8, _)] ?_
  refine Tri.seq ?_
  refine Tri.block ?_
  refine Tri.seq ?_
  refine tR ?_
  obtain ⟨w, hw⟩ : ∃ w, longS[n]? = some w := ⟨_, List.getElem?_eq_getElem (show n < longS.length from by (show n < 7); omega)⟩
  refine sO rfl rfl (oV (index_arr (z := 1) rfl rfl rfl rfl (by omega) (part_at (a := .str w) rfl rfl rfl (by rw [Nat.mul_one, List.getElem?_map, hw]; rfl))) ?_)
  refine sV rfl rfl rfl ?_
  show TrP 35 _ _ _ _
  refine tH [(0, _), (4, _), (6, _), (7, _), (8, _)] ?_
  refine Tri.seq ?_
  refine tR ?_
  iterate 4 refine sV rfl rfl rfl ?_
  refine sO rfl rfl (oP rfl (fun h14 => ?_) (fun h14 => ?_))
  ·
   iterate 4 refine sV rfl rfl rfl ?_
   refine sO rfl rfl (oHi rfl rfl rfl (by omega) ?_)
   refine sV rfl rfl rfl ?_
   refine sO rfl rfl (oS rfl (fun h21 => ?_) (fun h21 => ?_))
   ·
    refine sV rfl rfl rfl ?_
    show TrP 35 _ _ _ _
    refine tH [(0, _), (4, _), (6, _), (7, _), (8, _), (22, _)] ?_
    refine tT rfl ?_
    refine Tri.seq ?_
    refine tR ?_
    iterate 3 refine sV rfl rfl rfl ?_
    show TrP 35 _ _ _ _
    refine tH [(0, _), (2, _), (4, _), (6, _), (7, _), (8, _), (22, _)] ?_
    refine Tri.ret ?_
    refine ⟨trivial, _, rfl, ?_⟩
    have e : symL s = w.length := by unfold symL; rw [find_at hp hw (by simpa using h21)]
    rw [e]; exact ⟨Kp.refl, rfl, rfl⟩
   ·
    refine sV rfl rfl rfl ?_
    show TrP 35 _ _ _ _
    refine tH [(0, _), (4, _), (6, _), (7, _), (8, _), (22, _)] ?_
    refine tF rfl ?_
    refine Tri.skip ?_
    show TrP 35 _ _ _ _
    refine tH [(0, _), (4, _), (6, _), (7, _), (8, _), (22, _)] ?_
    refine tR ?_
    refine sO rfl rfl (oAdd (m := 1) rfl (by omega) ?_)
    refine sV rfl rfl rfl ?_
    refine ⟨7 - (n + 1), by omega, n + 1, rfl, by omega, take_no hp hw ?_, ⟨rfl, rfl, rfl, trivial⟩, rfl⟩
    first
      | (simpa using h21)
      | (rw [decide_eq_false_iff_not]; intro e; have := congrArg List.length e; rw [List.length_take] at this; omega)
  ·
   refine sV rfl rfl rfl ?_
   iterate 6 refine sN rfl rfl ?_
   refine sV rfl rfl rfl ?_
   show TrP 35 _ _ _ _
   refine tH [(0, _), (4, _), (6, _), (7, _), (8, _), (22, _)] ?_
   refine tF rfl ?_
   refine Tri.skip ?_
   show TrP 35 _ _ _ _
   refine tH [(0, _), (4, _), (6, _), (7, _), (8, _), (22, _)] ?_
   refine tR ?_
   refine sO rfl rfl (oAdd (m := 1) rfl (by omega) ?_)
   refine sV rfl rfl rfl ?_
   refine ⟨7 - (n + 1), by omega, n + 1, rfl, by omega, take_no hp hw ?_, ⟨rfl, rfl, rfl, trivial⟩, rfl⟩
   first
     | (simpa using h21)
     | (rw [decide_eq_false_iff_not]; intro e; have := congrArg List.length e; rw [List.length_take] at this; omega)
 ·
  show TrP 35 _ _ _ _
  refine tH [(0, _), (6, _), (7, _), (8, _)] ?_
  refine Tri.seq ?_
  refine tF rfl ?_
  refine Tri.exit ?_
  show TrP 35 _ _ _ _
  refine tH [(0, _), (6, _), (7, _), (8, _)] ?_
  refine Tri.seq ?_
  refine Tri.seq ?_
  refine tR ?_
  refine sV rfl rfl rfl ?_
  show TrP 35 _ _ _ _
  refine tH [(0, _), (5, _), (6, _), (7, _), (8, _)] ?_
  refine Tri.block ?_
  refine Tri.loop (fun k lk1 H1 => ∃ m : Nat, k = 23 - m ∧ m ≤ 23 ∧ (∀ x ∈ singleS.take m, decide (s.head? = some x) = false) ∧ Has lk1 [(0, at' (.str s)), (5, at' (.int .i64 m))] ∧ Kp [] H H1) (23) (⟨0, rfl, by omega, by simp, ⟨rfl, rfl, trivial⟩, Kp.refl⟩) ?_
  rintro k lk1 H1 ⟨m, hk2, hm, hq, hh2, hkp⟩
  refine Tri.has hh2 ?_
  refine Tri.seq ?_
  refine Tri.seq ?_
  refine tR ?_
  refine sV rfl rfl rfl ?_
  refine sO rfl rfl (oP rfl (fun h27 => ?_) (fun h27 => ?_))
  ·
   show TrP 35 _ _ _ _
   refine tH [(0, _), (5, _), (27, _)] ?_
   refine tT rfl ?_
   refine Tri.skip ?_
   show TrP 35 _ _ _ _
   refine tH [(0, _), (5, _), (27, _)] ?_
   refine Tri.seq ?_
   refine Tri.block ?_
   refine Tri.seq ?_
   refine Tri.drawn1 mixed eqsOk (eqs := eqs) ⟨[0, 1, 0, 4, 15], [0, 0, 0, 0, 0], 1, [0, 1, 2, 3, 4]⟩ (by decide +kernel) rfl ?_
   refine dL rfl rfl rfl rfl (oV rfl ?_)
   refine dL rfl rfl rfl rfl (oIdx (n := 0) rfl rfl rfl (by omega) (fun b31 hb31 => ?_))
   refine dL rfl rfl rfl rfl (oV rfl ?_)
   refine dL rfl rfl rfl rfl (oIdx rfl rfl rfl (show m < 23 by omega) (fun b33 hb33 => ?_))
   refine dL rfl rfl rfl rfl (oE rfl (fun h34 => ?_) (fun h34 => ?_))
   ·
    refine dE0 ?_
    show TrP 35 _ _ _ _
    refine tH [(0, _), (5, _), (27, _), (34, _)] ?_
    refine tT rfl ?_
    refine Tri.seq ?_
    refine tR ?_
    refine sV rfl rfl rfl ?_
    show TrP 35 _ _ _ _
    refine tH [(0, _), (2, _), (5, _), (27, _), (34, _)] ?_
    refine Tri.ret ?_
    refine ⟨trivial, _, rfl, ?_⟩
    have e : symL s = 1 := by
      have hp7 : ∀ x ∈ longS, decide (s.take x.length = x) = false := by rw [List.take_of_length_le (show longS.length ≤ n from by (show 7 ≤ n); omega)] at hp; exact hp
      have hb : b31 = b33 := b8.1 h34
      unfold symL; rw [find_no hp7]
      have : singleS.any (fun x => decide (s.head? = some x)) = true := List.any_eq_true.2 ⟨b33, List.mem_of_getElem? hb33, by rw [List.head?_eq_getElem?, hb31, hb]; simp⟩
      simp only [this, if_true]
    rw [e]; exact ⟨kP, rfl, rfl⟩
   ·
    refine dE0 ?_
    show TrP 35 _ _ _ _
    refine tH [(0, _), (5, _), (27, _), (34, _)] ?_
    refine tF rfl ?_
    refine Tri.skip ?_
    show TrP 35 _ _ _ _
    refine tH [(0, _), (5, _), (27, _), (34, _)] ?_
    refine tR ?_
    refine sV rfl rfl rfl ?_
    refine sO rfl rfl (oAdd (m := 1) rfl (by omega) ?_)
    refine sV rfl rfl rfl ?_
    refine ⟨23 - (m + 1), by omega, m + 1, rfl, by omega, take_no (p := fun x => decide (s.head? = some x)) hq hb33 ?_, ⟨rfl, rfl, trivial⟩, kP⟩
    rw [decide_eq_false_iff_not, List.head?_eq_getElem?, hb31]; intro e; cases e; exact h34 rfl
  ·
   show TrP 35 _ _ _ _
   refine tH [(0, _), (5, _), (27, _)] ?_
   refine tF rfl ?_
   refine Tri.exit ?_
   show TrP 35 _ _ _ _
   refine tH [(0, _), (5, _), (27, _)] ?_
   refine Tri.seq ?_
   refine tR ?_
   refine sV rfl rfl rfl ?_
   show TrP 35 _ _ _ _
   refine tH [(0, _), (2, _), (5, _), (27, _)] ?_
   refine Tri.ret ?_
   refine ⟨trivial, _, rfl, ?_⟩
   have e : symL s = 0 := by
     have hp7 : ∀ x ∈ longS, decide (s.take x.length = x) = false := by rw [List.take_of_length_le (show longS.length ≤ n from by (show 7 ≤ n); omega)] at hp; exact hp
     have hq7 : ∀ x ∈ singleS, decide (s.head? = some x) = false := by rw [List.take_of_length_le (show singleS.length ≤ m from by (show 23 ≤ m); omega)] at hq; exact hq
     unfold symL; rw [find_no hp7]
     simp only [any_no hq7]; rfl
   rw [e]; exact ⟨hkp, rfl, rfl⟩
structure Tok where
  kind : Nat
  text : List UInt8
  pos : Nat
def tokC (t : Tok) : List AT := [.int .i64 t.kind, .str t.text, .int .i64 t.pos]
theorem tokC_len (t : Tok) : (tokC t).length = 3 := rfl
/-- kind, text, error -/
noncomputable def firstS (s : List UInt8) : Nat × List UInt8 × Nat :=
  if wl s = 0 then (if symL s = 0 then (0, [], 2) else (3, s.take (symL s), 0))
  else if isD (s.headD 0) = true then (if validN (s.take (wl s)) = true then (2, s.take (wl s), 0) else (0, [], 2))
  else if 16 < wl s then (0, [], 6) else (1, s.take (wl s), 0)
theorem symL_le {s : List UInt8} (h : 0 < s.length) : symL s ≤ s.length := by
  unfold symL
  split
  · rename_i w hw
    have := List.find?_some hw
    simp only [decide_eq_true_eq] at this
    have := congrArg List.length this
    rw [List.length_take] at this; omega
  · split <;> omega
theorem firstS_len {s : List UInt8} (h : 0 < s.length) (he : (firstS s).2.2 = 0) : 1 ≤ (firstS s).2.1.length ∧ (firstS s).2.1.length ≤ s.length := by
  have h1 := wl_le s
  have h2 := symL_le h
  unfold firstS at he ⊢
  (repeat' split) <;> simp_all <;> omega
theorem headD_at {s : List UInt8} {b : UInt8} (h : s[0]? = some b) : s.headD 0 = b := by cases s with | nil => simp at h | cons a l => simpa using h

theorem first_ok (s : List UInt8) (H : Heap) (hs : s.length < 1000000) (h0 : 0 < s.length) : Sim Try.prog 65 [at' (.str s)] H (fun u G => u = .tup [.agg [.int .i64 (firstS s).1, .str (firstS s).2.1, .int .i64 0], .at (.int .i64 (firstS s).2.2)] ∧ G = H) := by
 have hw := wl_le s
 have hsy := symL_le h0
 refine Sim.trim ?_
 refine Sim.of_tri Try.func65 rfl ?_
 show TrP 41 _ _ _ _
 refine Tri.seq ?_
 refine tR ?_
 refine sO rfl rfl (oAlloc (cs := [.int .i64 0, .str [], .int .i64 0]) rfl rfl ?_)
 refine sV rfl rfl rfl ?_
 show TrP 41 _ _ _ _
 refine tH [(0, _), (2, _), (3, _)] ?_
 refine Tri.seq ?_
 refine tR ?_
 refine sV rfl rfl rfl ?_
 refine sO rfl rfl (oF rfl (fnOk_of Try.func71 (by decide) rfl) (wordLen_ok _ _ (by omega)) ?_)
 refine sV rfl rfl rfl ?_
 show TrP 41 _ _ _ _
 refine tH [(0, _), (2, _), (3, _), (4, _)] ?_
 refine Tri.seq ?_
 refine Tri.block ?_
 refine Tri.seq ?_
 refine tR ?_
 refine sV rfl rfl rfl ?_
 refine sO rfl rfl (oE rfl (fun h9 => ?_) (fun h9 => ?_))
 ·
  refine sV rfl rfl rfl ?_
  show TrP 41 _ _ _ _
  refine tH [(0, _), (2, _), (3, _), (4, _), (7, _)] ?_
  refine tT rfl ?_
  refine Tri.seq ?_
  refine Tri.seq ?_
  refine tR ?_
  refine sV rfl rfl rfl ?_
  refine sO rfl rfl (oF rfl (fnOk_of Try.func72 (by decide) rfl) (symbolLen_ok _ _ (by omega) (by omega)) ?_)
  refine sV rfl rfl rfl ?_
  show TrP 41 _ _ _ _
  refine tH [(0, _), (2, _), (3, _), (4, _), (7, _)] ?_
  refine Tri.seq ?_
  refine tR ?_
  refine sV rfl rfl rfl ?_
  refine sO rfl rfl (oE rfl (fun h13 => ?_) (fun h13 => ?_))
  ·
   show TrP 41 _ _ _ _
   refine tH [(0, _), (2, _), (3, _), (4, _), (7, _), (13, _)] ?_
   refine tT rfl ?_
   refine Tri.seq ?_
   refine tR ?_
   refine sO rfl rfl (oW (.one (.agg [.int .i64 0, .str [], .int .i64 0])) rfl rfl ?_)
   refine sO rfl rfl (oStore (n := 3) (cs' := [_, _, _]) rfl rfl rfl gG rfl (Nat.le_of_ble_eq_true rfl) rfl rfl ?_)
   refine sV rfl rfl rfl ?_
   show TrP 41 _ _ _ _
   refine tH [(0, _), (2, _), (3, _), (4, _), (7, _), (13, _)] ?_
   refine Tri.ret ?_
   refine ⟨trivial, _, (resA_cell (x := .agg [_, _, _]) rfl gG rfl (resA_tmp rfl rfl)), ?_⟩
   have w0 : wl s = 0 := by omega
   have e : firstS s = (0, [], 2) := by unfold firstS; rw [if_pos w0, if_pos (by omega)]
   rw [e]; exact ⟨kP, rfl, rfl⟩
  ·
   show TrP 41 _ _ _ _
   refine tH [(0, _), (2, _), (3, _), (4, _), (7, _), (13, _)] ?_
   refine tF rfl ?_
   refine Tri.skip ?_
   show TrP 41 _ _ _ _
   refine tH [(0, _), (2, _), (3, _), (4, _), (7, _), (13, _)] ?_
   refine Tri.seq ?_
   refine tR ?_
   iterate 2 refine sV rfl rfl rfl ?_
   refine sO rfl rfl (oHi rfl rfl rfl (by omega) ?_)
   refine sO rfl rfl (oW (.one (.agg [_, _, .int .i64 0])) rfl rfl ?_)
   refine sO rfl rfl (oStore (n := 3) (cs' := [_, _, _]) rfl rfl rfl gG rfl (Nat.le_of_ble_eq_true rfl) rfl rfl ?_)
   refine sV rfl rfl rfl ?_
   show TrP 41 _ _ _ _
   refine tH [(0, _), (2, _), (3, _), (4, _), (7, _), (13, _)] ?_
   refine Tri.ret ?_
   refine ⟨trivial, _, (resA_cell (x := .agg [_, _, _]) rfl gG rfl (resA_tmp rfl rfl)), ?_⟩
   have w0 : wl s = 0 := by omega
   have e : firstS s = (3, s.take (symL s), 0) := by unfold firstS; rw [if_pos w0, if_neg (by omega)]
   rw [e]; exact ⟨kP, rfl, rfl⟩
 ·
  refine sV rfl rfl rfl ?_
  show TrP 41 _ _ _ _
  refine tH [(0, _), (2, _), (3, _), (4, _), (7, _)] ?_
  refine tF rfl ?_
  refine Tri.seq ?_
  refine tR ?_
  refine sV rfl rfl rfl ?_
  refine sO rfl rfl (oIdx (n := 0) rfl rfl rfl (by omega) (fun b21 hb21 => ?_))
  refine sO rfl rfl (oFB rfl (fnOk_of Try.func73 (by decide) rfl) (isDigit_ok _ _) (fun h22 => ?_) (fun h22 => ?_))
  ·
   refine sV rfl rfl rfl ?_
   show TrP 41 _ _ _ _
   refine tH [(0, _), (2, _), (3, _), (4, _), (7, _), (19, _)] ?_
   refine tT rfl ?_
   refine Tri.seq ?_
   refine Tri.seq ?_
   refine tR ?_
   iterate 2 refine sV rfl rfl rfl ?_
   refine sO rfl rfl (oHi rfl rfl rfl (by omega) ?_)
   refine sO rfl rfl (oFB rfl (fnOk_of Try.func74 (by decide) rfl) (validNumber_ok _ _ (by rw [List.length_take]; omega) (by rw [List.length_take]; omega)) (fun h26 => ?_) (fun h26 => ?_))
   ·
    refine sV rfl rfl rfl ?_
    show TrP 41 _ _ _ _
    refine tH [(0, _), (2, _), (3, _), (4, _), (7, _), (19, _), (27, _)] ?_
    refine tF rfl ?_
    refine Tri.skip ?_
    show TrP 41 _ _ _ _
    refine tH [(0, _), (2, _), (3, _), (4, _), (7, _), (19, _), (27, _)] ?_
    refine Tri.seq ?_
    refine tR ?_
    iterate 2 refine sV rfl rfl rfl ?_
    refine sO rfl rfl (oHi rfl rfl rfl (by omega) ?_)
    refine sO rfl rfl (oW (.one (.agg [_, _, .int .i64 0])) rfl rfl ?_)
    refine sO rfl rfl (oStore (n := 3) (cs' := [_, _, _]) rfl rfl rfl gG rfl (Nat.le_of_ble_eq_true rfl) rfl rfl ?_)
    refine sV rfl rfl rfl ?_
    show TrP 41 _ _ _ _
    refine tH [(0, _), (2, _), (3, _), (4, _), (7, _), (19, _), (27, _)] ?_
    refine Tri.ret ?_
    refine ⟨trivial, _, (resA_cell (x := .agg [_, _, _]) rfl gG rfl (resA_tmp rfl rfl)), ?_⟩
    have w0 : ¬ wl s = 0 := by omega
    have e : firstS s = (2, s.take (wl s), 0) := by unfold firstS; rw [if_neg w0, if_pos (by rw [headD_at hb21]; exact h22), if_pos h26]
    rw [e]; exact ⟨kP, rfl, rfl⟩
   ·
    refine sV rfl rfl rfl ?_
    show TrP 41 _ _ _ _
    refine tH [(0, _), (2, _), (3, _), (4, _), (7, _), (19, _), (27, _)] ?_
    refine tT rfl ?_
    refine Tri.seq ?_
    refine tR ?_
    refine sO rfl rfl (oW (.one (.agg [.int .i64 0, .str [], .int .i64 0])) rfl rfl ?_)
    refine sO rfl rfl (oStore (n := 3) (cs' := [_, _, _]) rfl rfl rfl gG rfl (Nat.le_of_ble_eq_true rfl) rfl rfl ?_)
    refine sV rfl rfl rfl ?_
    show TrP 41 _ _ _ _
    refine tH [(0, _), (2, _), (3, _), (4, _), (7, _), (19, _), (27, _)] ?_
    refine Tri.ret ?_
    refine ⟨trivial, _, (resA_cell (x := .agg [_, _, _]) rfl gG rfl (resA_tmp rfl rfl)), ?_⟩
    have w0 : ¬ wl s = 0 := by omega
    have e : firstS s = (0, [], 2) := by unfold firstS; rw [if_neg w0, if_pos (by rw [headD_at hb21]; exact h22), if_neg (by rw [h26]; simp)]
    rw [e]; exact ⟨kP, rfl, rfl⟩
  ·
   refine sV rfl rfl rfl ?_
   show TrP 41 _ _ _ _
   refine tH [(0, _), (2, _), (3, _), (4, _), (7, _), (19, _)] ?_
   refine tF rfl ?_
   refine Tri.seq ?_
   refine tR ?_
   refine sV rfl rfl rfl ?_
   refine sO rfl rfl (oP rfl (fun h35 => ?_) (fun h35 => ?_))
   ·
    refine sV rfl rfl rfl ?_
    show TrP 41 _ _ _ _
    refine tH [(0, _), (2, _), (3, _), (4, _), (7, _), (19, _), (33, _)] ?_
    refine tT rfl ?_
    refine Tri.seq ?_
    refine tR ?_
    refine sO rfl rfl (oW (.one (.agg [.int .i64 0, .str [], .int .i64 0])) rfl rfl ?_)
    refine sO rfl rfl (oStore (n := 3) (cs' := [_, _, _]) rfl rfl rfl gG rfl (Nat.le_of_ble_eq_true rfl) rfl rfl ?_)
    refine sV rfl rfl rfl ?_
    show TrP 41 _ _ _ _
    refine tH [(0, _), (2, _), (3, _), (4, _), (7, _), (19, _), (33, _)] ?_
    refine Tri.ret ?_
    refine ⟨trivial, _, (resA_cell (x := .agg [_, _, _]) rfl gG rfl (resA_tmp rfl rfl)), ?_⟩
    have w0 : ¬ wl s = 0 := by omega
    have e : firstS s = (0, [], 6) := by unfold firstS; rw [if_neg w0, if_neg (by rw [headD_at hb21, h22]; simp), if_pos (by omega)]
    rw [e]; exact ⟨kP, rfl, rfl⟩
   ·
    refine sV rfl rfl rfl ?_
    show TrP 41 _ _ _ _
    refine tH [(0, _), (2, _), (3, _), (4, _), (7, _), (19, _), (33, _)] ?_
    refine tF rfl ?_
    refine Tri.skip ?_
    show TrP 41 _ _ _ _
    refine tH [(0, _), (2, _), (3, _), (4, _), (7, _), (19, _), (33, _)] ?_
    refine Tri.seq ?_
    refine tR ?_
    iterate 2 refine sV rfl rfl rfl ?_
    refine sO rfl rfl (oHi rfl rfl rfl (by omega) ?_)
    refine sO rfl rfl (oW (.one (.agg [_, _, .int .i64 0])) rfl rfl ?_)
    refine sO rfl rfl (oStore (n := 3) (cs' := [_, _, _]) rfl rfl rfl gG rfl (Nat.le_of_ble_eq_true rfl) rfl rfl ?_)
    refine sV rfl rfl rfl ?_
    show TrP 41 _ _ _ _
    refine tH [(0, _), (2, _), (3, _), (4, _), (7, _), (19, _), (33, _)] ?_
    refine Tri.ret ?_
    refine ⟨trivial, _, (resA_cell (x := .agg [_, _, _]) rfl gG rfl (resA_tmp rfl rfl)), ?_⟩
    have w0 : ¬ wl s = 0 := by omega
    have e : firstS s = (1, s.take (wl s), 0) := by unfold firstS; rw [if_neg w0, if_neg (by rw [headD_at hb21, h22]; simp), if_neg (by omega)]
    rw [e]; exact ⟨kP, rfl, rfl⟩
noncomputable def appT (l : List Tok) (x : List Tok × Nat × Nat) : List Tok × Nat × Nat := if x.2.1 = 0 then (l ++ x.1, x.2) else ([], x.2)
theorem appT_app (l m : List Tok) (x : List Tok × Nat × Nat) : appT l (appT m x) = appT (l ++ m) x := by
  unfold appT
  by_cases h : x.2.1 = 0
  · simp only [if_pos h, List.append_assoc]
  · simp only [if_neg h]
noncomputable def scanG : Nat → List UInt8 → Nat → List Tok × Nat × Nat
  | 0, _, _ => ([], 0, 0)
  | f + 1, s, p => if s.length = 0 then ([], 0, 0) else if (firstS s).2.2 = 0 then
      appT [⟨(firstS s).1, (firstS s).2.1, p⟩] (scanG f (s.drop ((firstS s).2.1.length + spL false (s.drop (firstS s).2.1.length))) (p + ((firstS s).2.1.length + spL false (s.drop (firstS s).2.1.length))))
    else ([], (firstS s).2.2, p)
/-- The tokens, or no token and the error. -/
noncomputable def scanS (s : List UInt8) : List Tok × Nat × Nat := if 20000 < s.length then ([], 6, 20000) else scanG s.length (s.drop (spL false s)) (spL false s)
theorem appT_nil {x : List Tok × Nat × Nat} (h : ¬ x.2.1 = 0 → x.1 = []) : appT [] x = x := by
  unfold appT; split
  · rfl
  · rename_i hh; rw [← h hh]
theorem appT_ok {l : List Tok} {x : List Tok × Nat × Nat} : ¬ (appT l x).2.1 = 0 → (appT l x).1 = [] := by
  unfold appT; split
  · rename_i h; intro hh; exact absurd h hh
  · intro _; rfl
theorem scanG_ok0 : ∀ (f : Nat) (s : List UInt8) (p : Nat), ¬ (scanG f s p).2.1 = 0 → (scanG f s p).1 = []
  | 0, s, p => fun _ => rfl
  | f + 1, s, p => by
    unfold scanG
    split
    · exact fun _ => rfl
    · split
      · exact appT_ok
      · exact fun _ => rfl
theorem scanG_end {f : Nat} {s : List UInt8} {p : Nat} (h : s.length = 0) : scanG f s p = ([], 0, 0) := by cases f <;> simp [scanG, h]
theorem scanG_err {f : Nat} {s : List UInt8} {p : Nat} (h : ¬ s.length = 0) (he : ¬ (firstS s).2.2 = 0) : scanG (f + 1) s p = ([], (firstS s).2.2, p) := by unfold scanG; rw [if_neg h, if_neg he]
theorem scanG_ok {f : Nat} {s : List UInt8} {p : Nat} (h : ¬ s.length = 0) (he : (firstS s).2.2 = 0) : scanG (f + 1) s p =
    appT [⟨(firstS s).1, (firstS s).2.1, p⟩] (scanG f (s.drop ((firstS s).2.1.length + spL false (s.drop (firstS s).2.1.length))) (p + ((firstS s).2.1.length + spL false (s.drop (firstS s).2.1.length)))) := by
  conv => lhs; unfold scanG
  rw [if_neg h, if_pos he]

theorem Scan_ok (s : List UInt8) (H : Heap) : Sim Try.prog 55 [at' (.str s)] H (fun u G => ∃ a, u = .tup [.at a, .agg [.int .i64 (scanS s).2.1, .int .i64 (scanS s).2.2]] ∧ RowA G H.n 95 (scanS s).1.length ((scanS s).1.flatMap tokC) a ∧ Kp [] H G) := by
 refine Sim.of_tri Try.func55 rfl ?_
 show TrP 49 _ _ _ _
 refine Tri.seq ?_
 refine tR ?_
 refine sV rfl rfl rfl ?_
 refine sO rfl rfl (oAlloc (cs := [.int .i64 0, .int .i64 0]) rfl rfl ?_)
 show TrP 49 _ _ _ _
 refine tH [(0, _), (2, _), (3, _)] ?_
 refine Tri.seq ?_
 refine Tri.seq ?_
 refine tR ?_
 iterate 2 refine sV rfl rfl rfl ?_
 refine sO rfl rfl (oP rfl (fun h10 => ?_) (fun h10 => ?_))
 ·
  show TrP 49 _ _ _ _
  refine tH [(0, _), (2, _), (3, _), (10, _)] ?_
  refine tT rfl ?_
  refine Tri.seq ?_
  refine tR ?_
  refine sO rfl rfl (oW (.one (.agg [_, _])) rfl rfl ?_)
  refine sV rfl rfl rfl ?_
  refine sO rfl rfl (oStore (n := 2) (cs' := [_, _]) rfl rfl rfl gG rfl (Nat.le_of_ble_eq_true rfl) rfl rfl ?_)
  show TrP 49 _ _ _ _
  refine tH [(0, _), (2, _), (3, _), (10, _)] ?_
  refine Tri.ret ?_
  refine ⟨trivial, _, (resA_tmp rfl (resA_cell (x := .agg [_, _]) rfl gG rfl rfl)), ?_⟩
  have e : scanS s = ([], 6, 20000) := by unfold scanS; rw [if_pos (by omega)]
  rw [e]; exact ⟨_, rfl, RowA.nil _ _ _, kP⟩
 ·
  show TrP 49 _ _ _ _
  refine tH [(0, _), (2, _), (3, _), (10, _)] ?_
  refine tF rfl ?_
  refine Tri.skip ?_
  show TrP 49 _ _ _ _
  refine tH [(0, _), (2, _), (3, _), (10, _)] ?_
  refine Tri.seq ?_
  refine tR ?_
  refine sV rfl rfl rfl ?_
  show TrP 49 _ _ _ _
  refine tH [(0, _), (2, _), (3, _), (4, _), (10, _)] ?_
  refine Tri.seq ?_
  refine Tri.seq ?_
  refine tR ?_
  refine sV rfl rfl rfl ?_
  refine sO rfl rfl (oF rfl (fnOk_of Try.func64 (by decide) rfl) (spaceLen_ok _ _ (by omega)) ?_)
  refine sV rfl rfl rfl ?_
  show TrP 49 _ _ _ _
  refine tH [(0, _), (2, _), (3, _), (4, _), (5, _), (10, _)] ?_
  refine Tri.block ?_
  refine Tri.loop (fun k lk1 H1 => ∃ (p : Nat) (l : List Tok) (a : AT), p ≤ s.length ∧ l.length ≤ p ∧ appT l (scanG k (s.drop p) p) = scanS s ∧ s.length - p ≤ k ∧ Has lk1 [(0, at' (.str s)), (3, at' (.ptr (some (H.n, 0)))), (4, at' a), (5, at' (.int .i64 p))] ∧ RowA H1 (H.n + 1) 95 l.length (l.flatMap tokC) a ∧ (∃ x y, H1.get H.n = some (.cells 91 1 [x, y])) ∧ Kp [] H H1) (s.length) (⟨spL false s, [], .slice none 0, spL_le s false, Nat.zero_le _, by unfold scanS; rw [if_neg (show ¬ 20000 < s.length from by omega)]; exact appT_nil (scanG_ok0 _ _ _), by omega, ⟨rfl, rfl, rfl, rfl, trivial⟩, RowA.nil _ _ _, ⟨_, _, Heap.push_new⟩, kP⟩) ?_
  rintro k lk1 H1 ⟨p, l, a, hp, hl, he, hk, hh, hr, ⟨x, y, hc⟩, hkp⟩
  refine Tri.has hh ?_
  have hlt := Heap.get_lt hc
  refine Tri.seq ?_
  refine Tri.seq ?_
  refine tR ?_
  iterate 3 refine sV rfl rfl rfl ?_
  refine sO rfl rfl (oP rfl (fun h17 => ?_) (fun h17 => ?_))
  ·
   show TrP 49 _ _ _ _
   refine tH [(0, _), (3, _), (4, _), (5, _), (17, _)] ?_
   refine tT rfl ?_
   refine Tri.skip ?_
   show TrP 49 _ _ _ _
   refine tH [(0, _), (3, _), (4, _), (5, _), (17, _)] ?_
   refine Tri.seq ?_
   refine Tri.block ?_
   refine Tri.seq ?_
   refine tR ?_
   iterate 2 refine sV rfl rfl rfl ?_
   refine sO rfl rfl (oLo rfl rfl rfl (by omega) ?_)
   refine sO rfl rfl (oF rfl (fnOk_of Try.func65 (by decide) rfl) (first_ok _ _ (by rw [List.length_drop]; omega) (by rw [List.length_drop]; omega)) ?_)
   iterate 3 refine sV rfl rfl rfl ?_
   refine sO rfl rfl (oAlloc (cs := [.int .i64 0, .str [], .int .i64 0]) rfl rfl ?_)
   refine sO rfl rfl (oStore (n := 3) (cs' := [_, _, _]) rfl rfl rfl gG rfl (Nat.le_of_ble_eq_true rfl) rfl rfl ?_)
   refine sV rfl rfl rfl ?_
   show TrP 49 _ _ _ _
   refine tH [(0, _), (3, _), (4, _), (5, _), (6, _), (7, _), (17, _)] ?_
   refine Tri.seq ?_
   refine Tri.seq ?_
   refine tR ?_
   refine sV rfl rfl rfl ?_
   refine sO rfl rfl (oNE rfl (fun h32 => ?_) (fun h32 => ?_))
   ·
    show TrP 49 _ _ _ _
    refine tH [(0, _), (3, _), (4, _), (5, _), (6, _), (7, _), (17, _), (32, _)] ?_
    refine tT rfl ?_
    refine Tri.seq ?_
    refine tR ?_
    iterate 2 refine sV rfl rfl rfl ?_
    refine sO rfl rfl (oW (.one (.agg [_, _])) rfl rfl ?_)
    refine sV rfl rfl rfl ?_
    refine sO rfl rfl (oStore (n := 2) (cs' := [_, _]) rfl rfl rfl gG rfl (Nat.le_of_ble_eq_true rfl) rfl rfl ?_)
    show TrP 49 _ _ _ _
    refine tH [(0, _), (2, _), (3, _), (4, _), (5, _), (6, _), (7, _), (17, _), (32, _)] ?_
    refine Tri.ret ?_
    refine ⟨trivial, _, (resA_tmp rfl (resA_cell (x := .agg [_, _]) rfl gG rfl rfl)), ?_⟩
    have e : scanS s = ([], (firstS (s.drop p)).2.2, p) := by
      obtain ⟨k', rfl⟩ : ∃ k', k = k' + 1 := ⟨k - 1, by omega⟩
      rw [← he, scanG_err (by rw [List.length_drop]; omega) (by omega)]
      unfold appT; rw [if_neg (by simp only []; omega)]
    rw [e]; exact ⟨_, rfl, RowA.nil _ _ _, kP⟩
   ·
    show TrP 49 _ _ _ _
    refine tH [(0, _), (3, _), (4, _), (5, _), (6, _), (7, _), (17, _), (32, _)] ?_
    refine tF rfl ?_
    refine Tri.skip ?_
    show TrP 49 _ _ _ _
    refine tH [(0, _), (3, _), (4, _), (5, _), (6, _), (7, _), (17, _), (32, _)] ?_
    refine Tri.seq ?_
    refine tR ?_
    refine sV rfl rfl rfl ?_
    refine sO rfl rfl (oW (at' (.ptr (some (_, 2)))) rfl rfl ?_)
    refine sO rfl rfl (oStore (n := 1) (cs' := [_, _, _]) rfl rfl rfl gG rfl (Nat.le_of_ble_eq_true rfl) rfl rfl ?_)
    show TrP 49 _ _ _ _
    refine tH [(0, _), (3, _), (4, _), (5, _), (6, _), (7, _), (17, _), (32, _)] ?_
    refine Tri.seq ?_
    refine tR ?_
    refine sV rfl rfl rfl ?_
    refine sO rfl rfl (oLoad (x := .agg [_, _, _]) rfl gG rfl ?_)
    refine sO rfl rfl (oBS1 (n := 3) rfl rfl rfl rfl rfl (by omega) (by omega) rfl ?_)
    have hlen := flat_len tokC_len l
    refine sO rfl rfl (oAppRow (lo := H.n + 1) (n := l.length) (m := 1) (cs := l.flatMap tokC) rfl rfl rfl rfl gR rfl gG rfl rfl rfl rfl rfl rfl rfl hlen (by (show (l.length + 1) * 32 ≤ _); omega) (by omega) (by simp only [Heap.n_push, Heap.n_set]; have := Heap.get_lt hc; omega) (fun a2 H2 hr2 hn2 hg2 => ?_))
    have hc6 : H2.get H1.n = some (.cells 95 1 [.int .i64 (firstS (s.drop p)).1, .str (firstS (s.drop p)).2.1, .int .i64 p]) := hg2 _ _ gG (.inr (by intro e; cases e))
    have hc3 : H2.get H.n = some (.cells 91 1 [x, y]) := hg2 _ _ gG (.inl (by omega))
    have hkp2 : Kp [] H H2 := Kp.app (lo := H.n + 1) kP (by omega) hn2 hg2
    have hdl : (s.drop p).length = s.length - p := List.length_drop
    have hfl := firstS_len (s := s.drop p) (by omega) (by omega)
    have hsl := spL_le (s.drop (p + (firstS (s.drop p)).2.1.length)) false
    rw [List.length_drop] at hsl
    refine sV rfl rfl rfl ?_
    show TrP 49 _ _ _ _
    refine tH [(0, _), (3, _), (4, _), (5, _), (6, _), (7, _), (17, _), (32, _)] ?_
    refine tR ?_
    refine sV rfl rfl rfl ?_
    refine sO rfl rfl (oW (at' (.ptr (some (_, 1)))) rfl rfl ?_)
    refine sO rfl rfl (oLoad (x := .at _) rfl gG rfl ?_)
    refine sV rfl rfl rfl ?_
    refine sO rfl rfl (oAdd rfl (by omega) ?_)
    refine sV rfl rfl rfl ?_
    show TrP 49 _ _ _ _
    refine tH [(0, _), (3, _), (4, _), (5, _), (6, _), (7, _), (17, _), (32, _)] ?_
    refine tR ?_
    iterate 3 refine sV rfl rfl rfl ?_
    refine sO rfl rfl (oLo rfl rfl rfl (by omega) ?_)
    refine sO rfl rfl (oF rfl (fnOk_of Try.func64 (by decide) rfl) (spaceLen_ok _ _ (by rw [List.length_drop]; omega)) ?_)
    refine sO rfl rfl (oAdd rfl (by omega) ?_)
    refine sV rfl rfl rfl ?_
    obtain ⟨k', rfl⟩ : ∃ k', k = k' + 1 := ⟨k - 1, by omega⟩
    refine ⟨k', by omega, p + (firstS (s.drop p)).2.1.length + spL false (s.drop (p + (firstS (s.drop p)).2.1.length)), l ++ [⟨(firstS (s.drop p)).1, (firstS (s.drop p)).2.1, p⟩], a2, by omega, by rw [List.length_append]; (show l.length + 1 ≤ _); omega, ?_, by omega, ⟨rfl, rfl, rfl, rfl, trivial⟩, ?_, ⟨_, _, hc3⟩, hkp2⟩
    · rw [← he, scanG_ok (by omega) (by omega), appT_app, List.drop_drop, List.drop_drop, ← Nat.add_assoc]
    · rw [List.length_append, List.flatMap_append]; exact hr2
  ·
   show TrP 49 _ _ _ _
   refine tH [(0, _), (3, _), (4, _), (5, _), (17, _)] ?_
   refine tF rfl ?_
   refine Tri.exit ?_
   show TrP 49 _ _ _ _
   refine tH [(0, _), (3, _), (4, _), (5, _), (17, _)] ?_
   refine Tri.seq ?_
   refine tR ?_
   refine sV rfl rfl rfl ?_
   refine sO rfl rfl (oW (.one (.agg [.int .i64 0, .int .i64 0])) rfl rfl ?_)
   refine sV rfl rfl rfl ?_
   refine sO rfl rfl (oStore (n := 2) (cs' := [_, _]) rfl rfl rfl gG rfl (Nat.le_of_ble_eq_true rfl) rfl rfl ?_)
   show TrP 49 _ _ _ _
   refine tH [(0, _), (2, _), (3, _), (4, _), (5, _), (17, _)] ?_
   refine Tri.ret ?_
   refine ⟨trivial, _, (resA_tmp rfl (resA_cell (x := .agg [_, _]) rfl gG rfl rfl)), ?_⟩
   have e : scanS s = (l, 0, 0) := by
     rw [← he, scanG_end (by rw [List.length_drop]; omega)]
     unfold appT; rw [if_pos rfl, List.append_nil]
   rw [e]; exact ⟨_, rfl, (hr.set hc (by intro e; cases e)).mono (by omega) (fun _ _ h => h), kP⟩
end Go.Proofs.Ytceakkomleaibaa
