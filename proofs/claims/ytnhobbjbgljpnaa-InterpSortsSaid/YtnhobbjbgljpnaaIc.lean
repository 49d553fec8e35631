/-
  WHAT THE INTERPRETER COMPUTES, in plain Lean: expressions, statements, calls. No seat's program in sight but for words and ticks. Written in this session.
-/
import Derived.Test.YtnhobbjbgljpnaaIb
namespace Go.Proofs.Ytnhobbjbgljpnaa
open Go.Ea
set_option linter.unusedVariables false
abbrev Vars := List UInt8 → Int
abbrev Arrs := List UInt8 → List Int
def upd1 {β : Type} (f : List UInt8 → β) (s : List UInt8) (v : β) : List UInt8 → β := fun t => if t = s then v else f t
/-- An expression's value; how far the run is after it. -/
def evX (A : Arrs) (f : Vars) : Exp → Ctl → Ctl × Int
  | .mk k n nm o kids, c =>
    if c.en ≠ 0 then (c, 0)
    else if k = 1 then (c, n) else if k = 2 then (c, f nm)
    else match kids with
      | [] => (c, 0)
      | a :: r =>
        if k = 3 then (if (evX A f a c).2 < 0 ∨ (evX A f a c).2 ≥ (A nm).length then (trapS (evX A f a c).1 2, 0) else ((evX A f a c).1, (A nm).getD (evX A f a c).2.toNat 0))
        else match r with
          | [] => ((evX A f a c).1, unS o (evX A f a c).2)
          | b :: t =>
            if k = 5 then (if (evX A f a c).2 ≠ 0 then evX A f b (evX A f a c).1 else match t with
              | [] => (c, 0)
              | d :: _ => evX A f d (evX A f a c).1)
            else if (evX A f b (evX A f a c).1).2 = 0 ∧ (o = 7 ∨ o = 8) then (trapS (evX A f b (evX A f a c).1).1 1, 0)
            else ((evX A f b (evX A f a c).1).1, binW o (evX A f a c).2 (evX A f b (evX A f a c).1).2)
termination_by e => htE e
decreasing_by
  all_goals simp only [htE, htEl]; omega
structure St where
  c : Ctl
  A : Arrs
  f : Vars
  out : List Int
theorem lexle {a b c d : Nat} (h : a ≤ b) (h2 : c < d) : Prod.Lex (fun a b => a < b) (fun a b => a < b) (a, c) (b, d) := by
  rcases Nat.lt_or_eq_of_le h with h | h
  · exact Prod.Lex.left _ _ h
  · subst h; exact Prod.Lex.right _ h2
/-- The operands of a call, in turn. -/
def evL (A : Arrs) (f : Vars) : List Exp → Ctl → Ctl × List Int
  | [], c => (c, [])
  | e :: r, c => ((evL A f r (evX A f e c).1).1, (evX A f e c).2 :: (evL A f r (evX A f e c).1).2)
def bind (ps : List (List UInt8)) (vs : List Int) : Vars := fun s => ((ps.zip vs).find? fun p => decide (p.1 = s)).elim 0 (·.2)
mutual
def exL (fs : List UInt8 → Option Fn1) : List Stm → St → St
  | [], s => s
  | x :: r, s => if s.c.en ≠ 0 then s else if h : (exS fs x s).c.fuel ≤ s.c.fuel then exL fs r (exS fs x s) else exS fs x s
termination_by l s => (s.c.fuel, htSl l)
decreasing_by
  all_goals first
    | exact lexle h (by simp only [htSl]; omega)
    | exact lexle (Nat.le_refl _) (by simp only [htSl]; omega)
def exS (fs : List UInt8 → Option Fn1) : Stm → St → St
  | .mk k nm to n a v args thn els, s =>
    if k = 1 then { s with c := (evX s.A s.f v s.c).1, f := upd1 s.f nm (evX s.A s.f v s.c).2 }
    else if k = 2 then
      let e1 := evX s.A s.f a s.c
      let e2 := evX s.A s.f v e1.1
      let c3 := if e1.2 < 0 ∨ e1.2 ≥ (s.A nm).length then trapS e2.1 2 else e2.1
      { s with c := c3, A := if c3.en = 0 then upd1 s.A nm ((s.A nm).set e1.2.toNat e2.2) else s.A }
    else if k = 3 then
      let e := evX s.A s.f v s.c
      if h : e.1.fuel ≤ s.c.fuel then (if e.2 ≠ 0 then exL fs thn { s with c := e.1 } else exL fs els { s with c := e.1 }) else s
    else if k = 4 then
      let e := evX s.A s.f v s.c
      if e.2 ≠ 0 ∧ e.1.en = 0 then
        (if h : (tickS e.1).en = 0 ∧ (tickS e.1).fuel < s.c.fuel then
          let s2 := exL fs thn { s with c := tickS e.1 }
          if h2 : s2.c.fuel < s.c.fuel then exS fs (.mk k nm to n a v args thn els) s2 else s2
        else { s with c := tickS e.1 })
      else { s with c := e.1 }
    else if k = 5 then
      let e := evX s.A s.f v s.c
      { s with c := e.1, out := if e.1.en = 0 then s.out ++ [e.2] else s.out }
    else if k = 6 then
      let e := evL s.A s.f args s.c
      match fs to with
      | none => s
      | some g =>
        if h : (tickS e.1).en = 0 ∧ (tickS e.1).fuel < s.c.fuel then
          let s2 := exL fs g.body { s with c := tickS e.1, f := bind g.params e.2 }
          let r := evX s2.A s2.f g.value s2.c
          { s2 with c := r.1, f := upd1 s.f nm r.2 }
        else { s with c := tickS e.1 }
    else if k = 7 then { s with c := trapS s.c (16 + n) } else s
termination_by x s => (s.c.fuel, htS x)
decreasing_by
  all_goals first
    | exact Prod.Lex.left _ _ h.2
    | exact Prod.Lex.left _ _ h2
    | exact lexle h (by simp only [htS]; omega)
end

theorem trapS_fuel (c : Ctl) (k : Int) : (trapS c k).fuel = c.fuel := by unfold trapS; split <;> rfl
theorem evX_fuel (A : Arrs) (f : Vars) (e : Exp) : ∀ c, (evX A f e c).1.fuel = c.fuel := by
  refine Exp.ind (Q := fun e => ∀ c, (evX A f e c).1.fuel = c.fuel) (fun k n nm o kids ih => ?_) e
  intro c
  rw [evX.eq_def]
  match kids, ih with
  | [], _ => simp only []; repeat' split
             all_goals rfl
  | [a], ih =>
    have ha := ih a (by simp)
    simp only []
    repeat' split
    all_goals simp only [trapS_fuel, ha]
  | a :: b :: [], ih =>
    have ha := ih a (by simp)
    have hb := ih b (by simp)
    simp only []
    repeat' split
    all_goals simp only [trapS_fuel, ha, hb]
  | a :: b :: d :: t, ih =>
    have ha := ih a (by simp)
    have hb := ih b (by simp)
    have hd := ih d (by simp)
    simp only []
    repeat' split
    all_goals simp only [trapS_fuel, ha, hb, hd]
theorem evL_fuel (A : Arrs) (f : Vars) : ∀ (l : List Exp) (c : Ctl), (evL A f l c).1.fuel = c.fuel
  | [], c => rfl
  | e :: r, c => by rw [evL]; simp only []; rw [evL_fuel A f r, evX_fuel]
theorem tickS_fuel (c : Ctl) : (tickS c).fuel ≤ c.fuel := by
  unfold tickS
  split
  · exact Nat.le_refl _
  · split
    · exact Nat.le_refl _
    · exact Nat.sub_le _ _
theorem tickS_lt {c : Ctl} (h0 : c.en = 0) (h : (tickS c).en = 0) : (tickS c).fuel < c.fuel := by
  unfold tickS at h ⊢
  rw [if_neg (by omega)] at h ⊢
  by_cases hf : c.fuel = 0
  · rw [if_pos hf] at h; cases h
  · rw [if_neg hf]; show c.fuel - 1 < c.fuel; omega

/-- Fuel never grows. -/
theorem ex_fuel (fs : List UInt8 → Option Fn1) : ∀ n m : Nat, (∀ x s, s.c.fuel ≤ n → htS x ≤ m → (exS fs x s).c.fuel ≤ s.c.fuel) ∧ (∀ l s, s.c.fuel ≤ n → htSl l ≤ m → (exL fs l s).c.fuel ≤ s.c.fuel) := by
  intro n
  induction n using Nat.strongRecOn
  rename_i n ihn
  intro m
  induction m using Nat.strongRecOn
  rename_i m ihm
  refine ⟨fun x s hn hm => ?_, fun l s hn hm => ?_⟩
  · match x, hm with
    | .mk k nm to q a v args thn els, hm =>
      simp only [htS] at hm
      rw [exS.eq_def]
      simp only []
      split
      · show (evX _ _ _ _).1.fuel ≤ _; rw [evX_fuel]; exact Nat.le_refl _
      split
      · simp only []
        split <;> simp only [trapS_fuel, evX_fuel] <;> exact Nat.le_refl _
      split
      · rw [dif_pos (by rw [evX_fuel]; exact Nat.le_refl _)]
        split
        · have := (ihm (htSl thn) (by omega)).2 thn { s with c := (evX s.A s.f v s.c).1 } (by simp only [evX_fuel]; exact hn) (Nat.le_refl _)
          simp only [evX_fuel] at this; exact this
        · have := (ihm (htSl els) (by omega)).2 els { s with c := (evX s.A s.f v s.c).1 } (by simp only [evX_fuel]; exact hn) (Nat.le_refl _)
          simp only [evX_fuel] at this; exact this
      split
      · have ht := tickS_fuel (evX s.A s.f v s.c).1
        rw [evX_fuel] at ht
        split
        · split
          · rename_i h
            have h1 := (ihn (tickS (evX s.A s.f v s.c).1).fuel (by omega) (htSl thn)).2 thn { s with c := tickS (evX s.A s.f v s.c).1 } (Nat.le_refl _) (Nat.le_refl _)
            simp only [] at h1
            split
            · rename_i h2
              have h3 := (ihn _ (by omega) _).1 (.mk k nm to q a v args thn els) (exL fs thn { s with c := tickS (evX s.A s.f v s.c).1 }) (Nat.le_refl _) (Nat.le_refl _)
              omega
            · omega
          · exact ht
        · show (evX _ _ _ _).1.fuel ≤ _; rw [evX_fuel]; exact Nat.le_refl _
      split
      · show (evX _ _ _ _).1.fuel ≤ _; rw [evX_fuel]; exact Nat.le_refl _
      split
      · have ht := tickS_fuel (evL s.A s.f args s.c).1
        rw [evL_fuel] at ht
        split
        · exact Nat.le_refl _
        · split
          · rename_i g _ h
            have h1 := (ihn (tickS (evL s.A s.f args s.c).1).fuel (by omega) (htSl g.body)).2 g.body { s with c := tickS (evL s.A s.f args s.c).1, f := bind g.params (evL s.A s.f args s.c).2 } (Nat.le_refl _) (Nat.le_refl _)
            simp only [] at h1
            show (evX _ _ _ _).1.fuel ≤ _
            rw [evX_fuel]; omega
          · exact ht
      split
      · show (trapS _ _).fuel ≤ _; rw [trapS_fuel]; exact Nat.le_refl _
      · exact Nat.le_refl _
  · match l, hm with
    | [], hm => rw [exL.eq_def]; exact Nat.le_refl _
    | x :: r, hm =>
      simp only [htSl] at hm
      rw [exL.eq_def]
      simp only []
      split
      · exact Nat.le_refl _
      · have h1 := (ihm (htS x) (by omega)).1 x s hn (Nat.le_refl _)
        rw [dif_pos h1]
        have h2 := (ihm (htSl r) (by omega)).2 r (exS fs x s) (by omega) (Nat.le_refl _)
        omega

theorem exL_fuel (fs : List UInt8 → Option Fn1) (l : List Stm) (s : St) : (exL fs l s).c.fuel ≤ s.c.fuel := (ex_fuel fs _ _).2 l s (Nat.le_refl _) (Nat.le_refl _)
theorem exS_fuel (fs : List UInt8 → Option Fn1) (x : Stm) (s : St) : (exS fs x s).c.fuel ≤ s.c.fuel := (ex_fuel fs _ _).1 x s (Nat.le_refl _) (Nat.le_refl _)
theorem exL_nil (fs : List UInt8 → Option Fn1) (s : St) : exL fs [] s = s := by rw [exL.eq_def]
theorem exL_cons (fs : List UInt8 → Option Fn1) (x : Stm) (r : List Stm) (s : St) : exL fs (x :: r) s = if s.c.en ≠ 0 then s else exL fs r (exS fs x s) := by
  rw [exL.eq_def]
  simp only []
  split
  · rfl
  · rw [dif_pos (exS_fuel fs x s)]
theorem exS_if (fs : List UInt8 → Option Fn1) {nm to : List UInt8} {n : Int} {a v : Exp} {args : List Exp} {thn els : List Stm} {s : St} : exS fs (.mk 3 nm to n a v args thn els) s = if (evX s.A s.f v s.c).2 ≠ 0 then exL fs thn { s with c := (evX s.A s.f v s.c).1 } else exL fs els { s with c := (evX s.A s.f v s.c).1 } := by
  rw [exS.eq_def]
  simp only []
  rw [if_neg (by decide), if_neg (by decide), if_pos trivial, dif_pos (by rw [evX_fuel]; exact Nat.le_refl _)]
theorem exS_while (fs : List UInt8 → Option Fn1) {nm to : List UInt8} {n : Int} {a v : Exp} {args : List Exp} {thn els : List Stm} {s : St} : exS fs (.mk 4 nm to n a v args thn els) s =
    if (evX s.A s.f v s.c).2 ≠ 0 ∧ (evX s.A s.f v s.c).1.en = 0 then
      (if (tickS (evX s.A s.f v s.c).1).en = 0 then exS fs (.mk 4 nm to n a v args thn els) (exL fs thn { s with c := tickS (evX s.A s.f v s.c).1 }) else { s with c := tickS (evX s.A s.f v s.c).1 })
    else { s with c := (evX s.A s.f v s.c).1 } := by
  rw [exS.eq_def]
  simp only []
  rw [if_neg (by decide), if_neg (by decide), if_neg (by decide), if_pos trivial]
  split
  · rename_i h
    have e0 := evX_fuel s.A s.f v s.c
    by_cases ht : (tickS (evX s.A s.f v s.c).1).en = 0
    · have h1 := tickS_lt h.2 ht
      rw [if_pos ht, dif_pos ⟨ht, by omega⟩]
      have h2 := exL_fuel fs thn { s with c := tickS (evX s.A s.f v s.c).1 }
      rw [dif_pos (by simp only [] at h2; omega)]
    · rw [if_neg ht, dif_neg (fun h => ht h.1)]
  · rfl

theorem tickS_en {c : Ctl} (h : (tickS c).en = 0) : c.en = 0 := by
  unfold tickS at h
  split at h
  · rename_i h1; exact absurd h h1
  · rename_i h1; omega
theorem exS_call (fs : List UInt8 → Option Fn1) {nm to : List UInt8} {n : Int} {a v : Exp} {args : List Exp} {thn els : List Stm} {s : St} {g : Fn1} (hg : fs to = some g) : exS fs (.mk 6 nm to n a v args thn els) s =
    if (tickS (evL s.A s.f args s.c).1).en = 0 then
      (let s2 := exL fs g.body { s with c := tickS (evL s.A s.f args s.c).1, f := bind g.params (evL s.A s.f args s.c).2 }
       { s2 with c := (evX s2.A s2.f g.value s2.c).1, f := upd1 s.f nm (evX s2.A s2.f g.value s2.c).2 })
    else { s with c := tickS (evL s.A s.f args s.c).1 } := by
  rw [exS.eq_def]
  simp only []
  rw [if_neg (by decide), if_neg (by decide), if_neg (by decide), if_neg (by decide), if_neg (by decide), if_pos trivial, hg]
  simp only []
  by_cases ht : (tickS (evL s.A s.f args s.c).1).en = 0
  · have h1 := tickS_lt (tickS_en ht) ht
    have e0 := evL_fuel s.A s.f args s.c
    rw [if_pos ht, dif_pos ⟨ht, by omega⟩]
  · rw [if_neg ht, dif_neg (fun h => ht h.1)]
theorem exS_assign (fs : List UInt8 → Option Fn1) {nm to : List UInt8} {n : Int} {a v : Exp} {args : List Exp} {thn els : List Stm} {s : St} : exS fs (.mk 1 nm to n a v args thn els) s = { s with c := (evX s.A s.f v s.c).1, f := upd1 s.f nm (evX s.A s.f v s.c).2 } := by
  rw [exS.eq_def]
  simp only []
  rw [if_pos trivial]
theorem exS_out (fs : List UInt8 → Option Fn1) {nm to : List UInt8} {n : Int} {a v : Exp} {args : List Exp} {thn els : List Stm} {s : St} : exS fs (.mk 5 nm to n a v args thn els) s = { s with c := (evX s.A s.f v s.c).1, out := if (evX s.A s.f v s.c).1.en = 0 then s.out ++ [(evX s.A s.f v s.c).2] else s.out } := by
  rw [exS.eq_def]
  simp only []
  rw [if_neg (by decide), if_neg (by decide), if_neg (by decide), if_neg (by decide), if_pos trivial]
theorem exS_trap (fs : List UInt8 → Option Fn1) {nm to : List UInt8} {n : Int} {a v : Exp} {args : List Exp} {thn els : List Stm} {s : St} : exS fs (.mk 7 nm to n a v args thn els) s = { s with c := trapS s.c (16 + n) } := by
  rw [exS.eq_def]
  simp only []
  rw [if_neg (by decide), if_neg (by decide), if_neg (by decide), if_neg (by decide), if_neg (by decide), if_neg (by decide), if_pos trivial]
end Go.Proofs.Ytnhobbjbgljpnaa
