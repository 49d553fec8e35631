/-
  RUNS, counted: what a run comes to, by a bound on its steps, such that it can be evaluated. Written in this session.
-/
import Derived.Test.YtnhobbjbgljpnaaIj
namespace Go.Proofs.Ytnhobbjbgljpnaa
open Go.Ea
set_option maxRecDepth 100000
set_option linter.unusedVariables false
set_option linter.unusedSimpArgs false
def evB (A : Arrs) (f : Vars) : Nat → Exp → Ctl → Option (Ctl × Int)
  | 0, _, _ => none
  | n + 1, .mk k m nm o kids, c =>
    if c.en ≠ 0 then some (c, 0) else if k = 1 then some (c, m) else if k = 2 then some (c, f nm) else match kids with
    | [] => some (c, 0)
    | a :: r => match evB A f n a c with
      | none => none
      | some e1 => if k = 3 then (if e1.2 < 0 ∨ e1.2 ≥ (A nm).length then some (trapS e1.1 2, 0) else some (e1.1, (A nm).getD e1.2.toNat 0)) else match r with
        | [] => some (e1.1, unS o e1.2)
        | b :: t => if k = 5 then (if e1.2 ≠ 0 then evB A f n b e1.1 else match t with
            | [] => some (c, 0)
            | d :: _ => evB A f n d e1.1) else match evB A f n b e1.1 with
          | none => none
          | some e2 => if e2.2 = 0 ∧ (o = 7 ∨ o = 8) then some (trapS e2.1 1, 0) else some (e2.1, binW o e1.2 e2.2)
theorem evB_ok {A : Arrs} {f : Vars} : ∀ (n : Nat) {e : Exp} {c : Ctl} {r : Ctl × Int}, evB A f n e c = some r → evX A f e c = r
  | 0, e, c, r, h => by cases h
  | n + 1, .mk k m nm o kids, c, r, h => by
    rw [evX.eq_def]
    unfold evB at h
    simp only []
    split at h
    · rename_i h0; rw [if_pos h0]; exact Option.some.inj h
    rename_i h0; rw [if_neg h0]
    split at h
    · rename_i h1; rw [if_pos h1]; exact Option.some.inj h
    rename_i h1; rw [if_neg h1]
    split at h
    · rename_i h2; rw [if_pos h2]; exact Option.some.inj h
    rename_i h2; rw [if_neg h2]
    cases kids with
    | nil => exact Option.some.inj h
    | cons a t =>
      simp only [] at h ⊢
      cases ha : evB A f n a c with
      | none => rw [ha] at h; cases h
      | some e1 =>
        rw [ha] at h
        have ea := evB_ok n ha
        rw [ea]
        (try simp only [] at h)
        split at h
        · rename_i h3
          rw [if_pos h3]
          split at h
          · rename_i h4; rw [if_pos h4]; exact Option.some.inj h
          · rename_i h4; rw [if_neg h4]; exact Option.some.inj h
        · rename_i h3
          rw [if_neg h3]
          cases t with
          | nil => exact Option.some.inj h
          | cons b t =>
            simp only [] at h ⊢
            split at h
            · rename_i h5
              rw [if_pos h5]
              split at h
              · rename_i h6; rw [if_pos h6]; exact evB_ok n h
              · rename_i h6
                rw [if_neg h6]
                cases t with
                | nil => exact Option.some.inj h
                | cons d t => exact evB_ok n h
            · rename_i h5
              rw [if_neg h5]
              cases hb : evB A f n b e1.1 with
              | none => rw [hb] at h; cases h
              | some e2 =>
                rw [hb] at h
                have eb := evB_ok n hb
                rw [eb]
                (try simp only [] at h)
                split at h
                · rename_i h6; rw [if_pos h6]; exact Option.some.inj h
                · rename_i h6; rw [if_neg h6]; exact Option.some.inj h
def evLB (A : Arrs) (f : Vars) (n : Nat) : List Exp → Ctl → Option (Ctl × List Int)
  | [], c => some (c, [])
  | e :: r, c => match evB A f n e c with
    | none => none
    | some v => match evLB A f n r v.1 with
      | none => none
      | some w => some (w.1, v.2 :: w.2)
theorem evLB_ok {A : Arrs} {f : Vars} {n : Nat} : ∀ (l : List Exp) {c : Ctl} {r : Ctl × List Int}, evLB A f n l c = some r → evL A f l c = r
  | [], c, r, h => Option.some.inj h
  | e :: l, c, r, h => by
    unfold evLB at h
    cases he : evB A f n e c with
    | none => rw [he] at h; cases h
    | some v =>
      rw [he] at h
      (try simp only [] at h)
      cases hl : evLB A f n l v.1 with
      | none => rw [hl] at h; cases h
      | some w =>
        rw [hl] at h
        rw [evL, evB_ok n he]
        (try simp only [])
        rw [evLB_ok l hl]
        exact Option.some.inj h
mutual
def stB (fs : List UInt8 → Option Fn1) : Nat → Stm → St → Option St
  | 0, _, _ => none
  | n + 1, .mk k nm to q a v args thn els, s =>
    if k = 1 then match evB s.A s.f n v s.c with
      | none => none
      | some e => some { s with c := e.1, f := upd1 s.f nm e.2 }
    else if k = 2 then match evB s.A s.f n a s.c with
      | none => none
      | some e1 => match evB s.A s.f n v e1.1 with
        | none => none
        | some e2 => some { s with c := storeC s.A nm e1.2 e2.1, A := if (storeC s.A nm e1.2 e2.1).en = 0 then upd1 s.A nm ((s.A nm).set e1.2.toNat e2.2) else s.A }
    else if k = 3 then match evB s.A s.f n v s.c with
      | none => none
      | some e => if e.2 ≠ 0 then lsB fs n thn { s with c := e.1 } else lsB fs n els { s with c := e.1 }
    else if k = 4 then match evB s.A s.f n v s.c with
      | none => none
      | some e => if e.2 ≠ 0 ∧ e.1.en = 0 then (if (tickS e.1).en = 0 then match lsB fs n thn { s with c := tickS e.1 } with
          | none => none
          | some s2 => stB fs n (.mk k nm to q a v args thn els) s2 else some { s with c := tickS e.1 }) else some { s with c := e.1 }
    else if k = 5 then match evB s.A s.f n v s.c with
      | none => none
      | some e => some { s with c := e.1, out := if e.1.en = 0 then s.out ++ [e.2] else s.out }
    else if k = 6 then match evLB s.A s.f n args s.c with
      | none => none
      | some e => match fs to with
        | none => none
        | some g => if (tickS e.1).en = 0 then match lsB fs n g.body { s with c := tickS e.1, f := bind g.params e.2 } with
            | none => none
            | some s2 => match evB s2.A s2.f n g.value s2.c with
              | none => none
              | some r => some { s2 with c := r.1, f := upd1 s.f nm r.2 }
          else some { s with c := tickS e.1 }
    else if k = 7 then some { s with c := trapS s.c (16 + q) } else none
def lsB (fs : List UInt8 → Option Fn1) : Nat → List Stm → St → Option St
  | 0, _, _ => none
  | _ + 1, [], s => some s
  | n + 1, x :: r, s => if s.c.en ≠ 0 then some s else match stB fs n x s with
    | none => none
    | some s' => lsB fs n r s'
end
theorem exB_ok (fs : List UInt8 → Option Fn1) : ∀ n : Nat, (∀ {x : Stm} {s r : St}, stB fs n x s = some r → exS fs x s = r) ∧ (∀ {l : List Stm} {s r : St}, lsB fs n l s = some r → exL fs l s = r) := by
  intro n
  induction n with
  | zero => exact ⟨fun {x s r} h => (by unfold stB at h; cases h), fun {l s r} h => (by unfold lsB at h; cases h)⟩
  | succ n ih =>
    obtain ⟨ihS, ihL⟩ := ih
    refine ⟨fun {x s r} h => ?_, fun {l s r} h => ?_⟩
    · match x, h with
      | .mk k nm to q a v args thn els, h =>
        unfold stB at h
        split at h
        · rename_i h1; subst h1
          cases he : evB s.A s.f n v s.c with
          | none => rw [he] at h; cases h
          | some e => rw [he] at h; rw [exS_assign, evB_ok n he]; exact Option.some.inj h
        split at h
        · rename_i h1; subst h1
          cases he : evB s.A s.f n a s.c with
          | none => rw [he] at h; cases h
          | some e1 =>
            rw [he] at h
            (try simp only [] at h)
            cases hv : evB s.A s.f n v e1.1 with
            | none => rw [hv] at h; cases h
            | some e2 => rw [hv] at h; rw [exS_store, evB_ok n he]; (try simp only []); rw [evB_ok n hv]; exact Option.some.inj h
        split at h
        · rename_i h1; subst h1
          cases he : evB s.A s.f n v s.c with
          | none => rw [he] at h; cases h
          | some e =>
            rw [he] at h
            rw [exS_if, evB_ok n he]
            (try simp only [] at h)
            split at h
            · rename_i h2; rw [if_pos h2]; exact ihL h
            · rename_i h2; rw [if_neg h2]; exact ihL h
        split at h
        · rename_i h1; subst h1
          cases he : evB s.A s.f n v s.c with
          | none => rw [he] at h; cases h
          | some e =>
            rw [he] at h
            rw [exS_while, evB_ok n he]
            (try simp only [] at h)
            split at h
            · rename_i h2
              rw [if_pos h2]
              split at h
              · rename_i h3
                rw [if_pos h3]
                cases hl : lsB fs n thn { s with c := tickS e.1 } with
                | none => rw [hl] at h; cases h
                | some s2 => rw [hl] at h; rw [ihL hl]; exact ihS h
              · rename_i h3; rw [if_neg h3]; exact Option.some.inj h
            · rename_i h2; rw [if_neg h2]; exact Option.some.inj h
        split at h
        · rename_i h1; subst h1
          cases he : evB s.A s.f n v s.c with
          | none => rw [he] at h; cases h
          | some e => rw [he] at h; rw [exS_out, evB_ok n he]; exact Option.some.inj h
        split at h
        · rename_i h1; subst h1
          cases he : evLB s.A s.f n args s.c with
          | none => rw [he] at h; cases h
          | some e =>
            rw [he] at h
            (try simp only [] at h)
            cases hg : fs to with
            | none => rw [hg] at h; cases h
            | some g =>
              rw [hg] at h
              rw [exS_call fs hg, evLB_ok args he]
              (try simp only [] at h)
              split at h
              · rename_i h3
                rw [if_pos h3]
                cases hl : lsB fs n g.body { s with c := tickS e.1, f := bind g.params e.2 } with
                | none => rw [hl] at h; cases h
                | some s2 =>
                  rw [hl] at h
                  (try simp only [] at h)
                  (try simp only [])
                  rw [ihL hl]
                  cases hv : evB s2.A s2.f n g.value s2.c with
                  | none => rw [hv] at h; cases h
                  | some r => rw [hv] at h; rw [evB_ok n hv]; exact Option.some.inj h
              · rename_i h3; rw [if_neg h3]; exact Option.some.inj h
        split at h
        · rename_i h1; subst h1; rw [exS_trap]; exact Option.some.inj h
        · cases h
    · match l, h with
      | [], h => unfold lsB at h; rw [exL_nil]; exact Option.some.inj h
      | x :: t, h =>
        unfold lsB at h
        rw [exL_cons]
        split at h
        · rename_i h1; rw [if_pos h1]; exact Option.some.inj h
        · rename_i h1
          rw [if_neg h1]
          cases hx : stB fs n x s with
          | none => rw [hx] at h; cases h
          | some s' => rw [hx] at h; rw [ihS hx]; exact ihL h
theorem lsB_ok {fs : List UInt8 → Option Fn1} {n : Nat} {l : List Stm} {s r : St} (h : lsB fs n l s = some r) : exL fs l s = r := (exB_ok fs n).2 h
/-- The outcome, by a bound. -/
def ocB (n : Nat) (p : Pr) (g : Fn1) (args : List Int) (fuel : Nat) : Option OC := match lsB (fnOf p) n g.body ⟨⟨fuel, 0, 0⟩, arr0 p.arrays, bind g.params args, []⟩ with
  | none => none
  | some s => match evB s.A s.f n g.value s.c with
    | none => none
    | some r => some (if r.1.en = 2 then ⟨2, r.1.code, s.out, 0⟩ else if r.1.en = 3 then ⟨3, 0, s.out, 0⟩ else ⟨1, 0, s.out, r.2⟩)
theorem ocB_ok {n : Nat} {p : Pr} {g : Fn1} {args : List Int} {fuel : Nat} {o : OC} (h : ocB n p g args fuel = some o) : ocS p g args fuel = o := by
  unfold ocB at h
  cases hl : lsB (fnOf p) n g.body ⟨⟨fuel, 0, 0⟩, arr0 p.arrays, bind g.params args, []⟩ with
  | none => rw [hl] at h; cases h
  | some s =>
    rw [hl] at h
    (try simp only [] at h)
    have hs : endS p g args fuel = s := lsB_ok hl
    cases hv : evB s.A s.f n g.value s.c with
    | none => rw [hv] at h; cases h
    | some r =>
      rw [hv] at h
      have hr : endV p g args fuel = r := by unfold endV; rw [hs]; exact evB_ok n hv
      unfold ocS
      rw [hs, hr]
      exact Option.some.inj h
theorem runS_of {p : Pr} {nm : List UInt8} {args : List Int} {fuel : Nat} {g : Fn1} (hc : chkS p = 0) (hf : fuel ≤ 1000) (hg : fnOf p nm = some g) (hl : g.params.length = args.length) : runS p nm args ((fuel : Nat) : Int) = ocS p g args fuel := by
  unfold runS
  rw [if_neg (by rw [hc]; omega), hg]
  simp only []
  rw [if_neg (by rw [hl]; exact fun h => h rfl), Int.toNat_natCast]
end Go.Proofs.Ytnhobbjbgljpnaa
