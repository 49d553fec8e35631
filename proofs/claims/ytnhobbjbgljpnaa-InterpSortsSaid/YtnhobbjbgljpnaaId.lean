/-
  CONTRACTS of the interpreter's machine: how it lies in the heap; store (printed by wip/tools/walk.py from wip/specs/intC.py). Written in this session.
-/
import Derived.Test.YtnhobbjbgljpnaaIc
namespace Go.Proofs.Ytnhobbjbgljpnaa
open Go.Ea
set_option maxRecDepth 100000
set_option linter.unusedVariables false
set_option linter.unusedSimpArgs false

def numsC (l : List Int) : List AT := l.map (AT.int .i64)
/-- Variables in a map. -/
def VarE (H : Heap) (m : Nat) (f : Vars) : Prop := ∃ es, H.get m = some (.map (ents es)) ∧ ∀ s, (lkM es s).getD (.at (.int .i64 0)) = .at (.int .i64 (f s))
theorem VarE.kp {H H' : Heap} {m : Nat} {f : Vars} {own : List Nat} (h : VarE H m f) (hk : Kp own H H') (hm : m ∉ own) : VarE H' m f := by
  obtain ⟨es, h1, h2⟩ := h
  exact ⟨es, hk.g _ _ h1 rfl hm, h2⟩
/-- Arrays: a map of rows, each row's object its own. -/
structure ArrE (H : Heap) (mc : Nat) (pl : List UInt8 → Option Nat) (A : Arrs) : Prop where
  m : ∃ es, H.get mc = some (.map (ents es)) ∧ ∀ s, lkM es s = (pl s).map fun i => A1.at (.slice (some (i, 0)) (A s).length)
  o : ∀ s i, pl s = some i → H.get i = some (.cells 2 2 (numsC (A s)))
  no : ∀ s, pl s = none → A s = []
  inj : ∀ s t i, pl s = some i → pl t = some i → s = t
theorem ArrE.kp {H H' : Heap} {mc : Nat} {pl : List UInt8 → Option Nat} {A : Arrs} {own : List Nat} (h : ArrE H mc pl A) (hk : Kp own H H') (hm : mc ∉ own) (ho : ∀ s i, pl s = some i → i ∉ own) : ArrE H' mc pl A := by
  obtain ⟨⟨es, h1, h2⟩, h3, h4, h5⟩ := h
  exact ⟨⟨es, hk.g _ _ h1 rfl hm, h2⟩, fun s i hp => hk.g _ _ (h3 s i hp) rfl (ho s i hp), h4, h5⟩
/-- The row of an array. -/
def plq (pl : List UInt8 → Option Nat) (s : List UInt8) : Option (Nat × Nat) := (pl s).map fun i => (i, 0)
theorem ArrE.look {H : Heap} {mc : Nat} {pl : List UInt8 → Option Nat} {A : Arrs} (h : ArrE H mc pl A) (s : List UInt8) : ∃ es, H.get mc = some (.map (ents es)) ∧ (lkM es s).getD (.at (.slice none 0)) = .at (.slice (plq pl s) (A s).length) := by
  obtain ⟨es, h1, h2⟩ := h.m
  refine ⟨es, h1, ?_⟩
  rw [h2 s]
  unfold plq
  cases hp : pl s with
  | none => rw [h.no s hp]; rfl
  | some i => rfl
theorem numsC_set (l : List Int) (i : Nat) (v : Int) (hi : i < l.length) : putL (numsC l) (0 + i * 1) [AT.int .i64 v] = numsC (l.set i v) := by
  unfold putL numsC
  rw [Nat.zero_add, Nat.mul_one, List.map_set, List.set_eq_take_append_cons_drop, if_pos (by rw [List.length_map]; exact hi)]
  simp
theorem ArrE.set {H : Heap} {mc : Nat} {pl : List UInt8 → Option Nat} {A : Arrs} {s : List UInt8} {i : Nat} {l : List Int} (h : ArrE H mc pl A) (hp : pl s = some i) (hl : l.length = (A s).length) (hm : mc ≠ i) : ArrE (H.set i (.cells 2 2 (numsC l))) mc pl (upd1 A s l) := by
  obtain ⟨⟨es, h1, h2⟩, h3, h4, h5⟩ := h
  have hlt := Heap.get_lt (h3 s i hp)
  refine ⟨⟨es, Heap.set_old h1 hm hlt, fun t => ?_⟩, fun t j ht => ?_, fun t ht => ?_, h5⟩
  · rw [h2 t]
    unfold upd1
    by_cases e : t = s
    · subst e; rw [if_pos rfl, hl]
    · rw [if_neg e]
  · unfold upd1
    by_cases e : t = s
    · subst e
      rw [hp] at ht; cases ht
      rw [if_pos rfl]; exact Heap.set_newl hlt
    · rw [if_neg e]
      exact Heap.set_old (h3 t j ht) (fun e' => by subst e'; exact e (h5 t s _ ht hp)) hlt
  · unfold upd1
    by_cases e : t = s
    · subst e; rw [hp] at ht; cases ht
    · rw [if_neg e]; exact h4 t ht

theorem trapS_en (c : Ctl) (k : Int) : (trapS c k).en ≠ 0 := by
  unfold trapS
  split
  · show (2 : Int) ≠ 0; decide
  · assumption
def storeC (A : Arrs) (s : List UInt8) (a : Int) (c : Ctl) : Ctl := if a < 0 ∨ a ≥ (A s).length then trapS c 2 else c

theorem store_ok (x : Nat) (F : Fix) (c : Ctl) (out : AT) (H : Heap) (hc : H.get x = some (.cells 77 1 (mcC F c out))) (pl : List UInt8 → Option Nat) (A : Arrs) (s : List UInt8) (a v : Int) (hA : ArrE H F.mc pl A) (al : List Nat) (hal : ∀ s i, pl s = some i → i ∈ al) (hx : x ∉ al ∧ x ≠ F.mc ∧ F.mc ∉ al) : Sim Try.prog 83 [at' (.ptr (some (x, 0))), at' (.slice (plq pl s) (A s).length), at' (.int .i64 a), at' (.int .i64 v)] H (fun u G => G.get x = some (.cells 77 1 (mcC F (storeC A s a c) out)) ∧ ArrE G F.mc pl (if (storeC A s a c).en = 0 then upd1 A s ((A s).set a.toNat v) else A) ∧ Kp (x :: al) H G) := by
 have hxl := Heap.get_lt hc
 refine Sim.of_tri Try.func83 rfl ?_
 show TrP 27 _ _ _ _
 refine Tri.seq ?_
 refine Tri.seq ?_
 refine tR ?_
 refine sV rfl rfl rfl ?_
 refine sO rfl rfl (oP rfl (fun h9 => ?_) (fun h9 => ?_))
 ·
  refine sV rfl rfl rfl ?_
  iterate 4 refine sN rfl rfl ?_
  refine sV rfl rfl rfl ?_
  show TrP 27 _ _ _ _
  refine tH [(0, _), (1, _), (2, _), (3, _), (15, _)] ?_
  refine tT rfl ?_
  refine tR ?_
  refine sV rfl rfl rfl ?_
  refine sO rfl rfl (oC rfl (fnOk_of Try.func73 (by decide) rfl) (trap_ok x _ _ _ _ _ (by assumption)) ?_)
  rintro u G1 ⟨hc1, hk1, hn1⟩
  have hA1 : ArrE G1 F.mc pl A := hA.kp hk1 (by simp; exact fun e => hx.2.1 e.symm) (fun s i hp hm => by simp only [List.mem_cons, List.not_mem_nil, or_false] at hm; subst hm; exact hx.1 (hal s _ hp))
  show TrP 27 _ _ _ _
  refine tH [(0, _), (1, _), (2, _), (3, _), (15, _)] ?_
  refine Tri.seq ?_
  refine tR ?_
  iterate 2 refine sV rfl rfl rfl ?_
  refine sO rfl rfl (oW (at' (.ptr (some (_, _ + 5)))) rfl rfl ?_)
  refine sO rfl rfl (oLoad (x := .at _) rfl gG rfl ?_)
  refine sO rfl rfl (oE rfl (fun h22 => (trapS_en c 2 h22).elim) (fun h22 => ?_))
  show TrP 27 _ _ _ _
  refine tH [(0, _), (1, _), (2, _), (3, _), (15, _), (22, _)] ?_
  refine tF rfl ?_
  refine Tri.skip ?_
  refine ⟨trivial, _, rfl, ?_⟩
  first
    | (have e : storeC A s a c = trapS c 2 := by unfold storeC; rw [if_pos (by first | exact .inl h9 | exact .inr h14)]
       rw [e, if_neg (trapS_en c 2)]; exact ⟨hc1, hA1, hk1.weaken (by simp)⟩)
    | (have e : storeC A s a c = c := by unfold storeC; rw [if_neg (by omega)]
       rw [e, if_neg h22]; exact ⟨hc, hA, Kp.refl⟩)
 ·
  iterate 4 refine sV rfl rfl rfl ?_
  refine sO rfl rfl (oP rfl (fun h14 => ?_) (fun h14 => ?_))
  ·
   refine sV rfl rfl rfl ?_
   show TrP 27 _ _ _ _
   refine tH [(0, _), (1, _), (2, _), (3, _), (15, _)] ?_
   refine tT rfl ?_
   refine tR ?_
   refine sV rfl rfl rfl ?_
   refine sO rfl rfl (oC rfl (fnOk_of Try.func73 (by decide) rfl) (trap_ok x _ _ _ _ _ (by assumption)) ?_)
   rintro u G1 ⟨hc1, hk1, hn1⟩
   have hA1 : ArrE G1 F.mc pl A := hA.kp hk1 (by simp; exact fun e => hx.2.1 e.symm) (fun s i hp hm => by simp only [List.mem_cons, List.not_mem_nil, or_false] at hm; subst hm; exact hx.1 (hal s _ hp))
   show TrP 27 _ _ _ _
   refine tH [(0, _), (1, _), (2, _), (3, _), (15, _)] ?_
   refine Tri.seq ?_
   refine tR ?_
   iterate 2 refine sV rfl rfl rfl ?_
   refine sO rfl rfl (oW (at' (.ptr (some (_, _ + 5)))) rfl rfl ?_)
   refine sO rfl rfl (oLoad (x := .at _) rfl gG rfl ?_)
   refine sO rfl rfl (oE rfl (fun h22 => (trapS_en c 2 h22).elim) (fun h22 => ?_))
   show TrP 27 _ _ _ _
   refine tH [(0, _), (1, _), (2, _), (3, _), (15, _), (22, _)] ?_
   refine tF rfl ?_
   refine Tri.skip ?_
   refine ⟨trivial, _, rfl, ?_⟩
   first
     | (have e : storeC A s a c = trapS c 2 := by unfold storeC; rw [if_pos (by first | exact .inl h9 | exact .inr h14)]
        rw [e, if_neg (trapS_en c 2)]; exact ⟨hc1, hA1, hk1.weaken (by simp)⟩)
     | (have e : storeC A s a c = c := by unfold storeC; rw [if_neg (by omega)]
        rw [e, if_neg h22]; exact ⟨hc, hA, Kp.refl⟩)
  ·
   refine sV rfl rfl rfl ?_
   show TrP 27 _ _ _ _
   refine tH [(0, _), (1, _), (2, _), (3, _), (15, _)] ?_
   refine tF rfl ?_
   refine Tri.skip ?_
   show TrP 27 _ _ _ _
   refine tH [(0, _), (1, _), (2, _), (3, _), (15, _)] ?_
   refine Tri.seq ?_
   refine tR ?_
   iterate 2 refine sV rfl rfl rfl ?_
   refine sO rfl rfl (oW (at' (.ptr (some (_, _ + 5)))) rfl rfl ?_)
   refine sO rfl rfl (oLoad (x := .at _) rfl gG rfl ?_)
   refine sO rfl rfl (oE rfl (fun h22 => ?_) (fun h22 => ?_))
   ·
    show TrP 27 _ _ _ _
    refine tH [(0, _), (1, _), (2, _), (3, _), (15, _), (22, _)] ?_
    refine tT rfl ?_
    refine tR ?_
    iterate 3 refine sV rfl rfl rfl ?_
    obtain ⟨n, rfl⟩ : ∃ n : Nat, a = (n : Int) := ⟨a.toNat, by omega⟩
    obtain ⟨i, hpi⟩ : ∃ i, pl s = some i := by
      cases hp : pl s with
      | none => have := hA.no s hp; rw [this] at h14; simp at h14; try omega
      | some i => exact ⟨i, rfl⟩
    have hq : plq pl s = some (i, 0) := by unfold plq; rw [hpi]; rfl
    have hrow := hA.o s i hpi
    have hmi : F.mc ≠ i := fun e => hx.2.2 (e ▸ hal s i hpi)
    have hxi : x ≠ i := fun e => hx.1 (e ▸ hal s i hpi)
    have hil := Heap.get_lt hrow
    have hin : n < (A s).length := by omega
    refine sO rfl rfl (oIA (z := 1) (i := n) (by rw [← hq]; rfl) rfl rfl rfl hin ?_)
    refine sO rfl rfl (oStore (n := 1) (cs' := numsC ((A s).set n v)) rfl rfl rfl hrow rfl (by simp only [numsC, List.length_map]; omega) rfl (numsC_set _ _ _ hin) ?_)
    refine ⟨trivial, _, rfl, ?_⟩
    have e : storeC A s (n : Int) c = c := by unfold storeC; rw [if_neg (by omega)]
    rw [e, if_pos h22, Int.toNat_natCast]; exact ⟨gG, hA.set hpi (by simp) hmi, (by repeat (first | exact Kp.refl | refine Kp.push ?_ | refine Kp.set ?_ lL (.inl (by simp [hal s i hpi]))))⟩
   ·
    show TrP 27 _ _ _ _
    refine tH [(0, _), (1, _), (2, _), (3, _), (15, _), (22, _)] ?_
    refine tF rfl ?_
    refine Tri.skip ?_
    refine ⟨trivial, _, rfl, ?_⟩
    first
      | (have e : storeC A s a c = trapS c 2 := by unfold storeC; rw [if_pos (by first | exact .inl h9 | exact .inr h14)]
         rw [e, if_neg (trapS_en c 2)]; exact ⟨hc1, hA1, hk1.weaken (by simp)⟩)
      | (have e : storeC A s a c = c := by unfold storeC; rw [if_neg (by omega)]
         rw [e, if_neg h22]; exact ⟨hc, hA, Kp.refl⟩)
end Go.Proofs.Ytnhobbjbgljpnaa
