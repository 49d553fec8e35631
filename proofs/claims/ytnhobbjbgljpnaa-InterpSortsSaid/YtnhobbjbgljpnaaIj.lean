/-
  LAWS OF RUNS in plain Lean: the order of the functions; more fuel. Written in this session.
-/
import Derived.Test.YtnhobbjbgljpnaaIg
import Derived.Test.YtnhobbjbgljpnaaKv
namespace Go.Proofs.Ytnhobbjbgljpnaa
open Go.Ea
set_option maxRecDepth 100000
set_option linter.unusedVariables false
set_option linter.unusedSimpArgs false
/-! ### the order of the functions -/
theorem mem_of_fnOf {p : Pr} {s : List UInt8} {g : Fn1} (h : fnOf p s = some g) : g ∈ p.funcs ∧ g.name = s := by
  unfold fnOf at h
  cases hi : fidx p s with
  | none => rw [hi] at h; cases h
  | some i =>
    rw [hi] at h
    obtain ⟨g', h1, h2, h3⟩ := fidx_spec hi
    have h : p.funcs[i]? = some g := h
    rw [h1] at h; cases h
    exact ⟨List.mem_of_getElem? h1, h2⟩
theorem fnOf_none {p : Pr} {s : List UInt8} (h : fnOf p s = none) : ∀ g ∈ p.funcs, g.name ≠ s := by
  intro g hg e
  obtain ⟨i, hi⟩ := List.getElem?_of_mem hg
  have : mpL (idxL p.funcs) s ≠ none := by
    unfold mpL
    intro hn
    rw [Option.map_eq_none_iff, List.find?_eq_none] at hn
    have hm : (g.name, i) ∈ (idxL p.funcs).reverse := by
      rw [List.mem_reverse]
      unfold idxL
      refine List.mem_map.2 ⟨(g, i), ?_, rfl⟩
      rw [List.mem_zipIdx_iff_getElem?]
      exact hi
    have := hn _ hm
    simp [e] at this
  cases hf : fidx p s with
  | none => exact this hf
  | some i =>
    obtain ⟨g', _, _, h3⟩ := fidx_spec hf
    rw [h] at h3; cases h3
theorem nodup_name {l : List Fn1} (h : (l.map Fn1.name).Nodup) {g g' : Fn1} (hg : g ∈ l) (hg' : g' ∈ l) (e : g.name = g'.name) : g = g' := by
  induction l with
  | nil => cases hg
  | cons x r ih =>
    rw [List.map_cons, List.nodup_cons] at h
    rcases List.mem_cons.1 hg with h1 | h1
    · rcases List.mem_cons.1 hg' with h2 | h2
      · rw [h1, h2]
      · exact absurd (List.mem_map.2 ⟨g', h2, by rw [← e, h1]⟩ : x.name ∈ r.map Fn1.name) h.1
    · rcases List.mem_cons.1 hg' with h2 | h2
      · exact absurd (List.mem_map.2 ⟨g, h1, by rw [e, h2]⟩ : x.name ∈ r.map Fn1.name) h.1
      · exact ih h.2 h1 h2
theorem fnOf_rev {p : Pr} (h : (p.funcs.map Fn1.name).Nodup) : fnOf (revP p) = fnOf p := by
  funext s
  have hm : ∀ g, g ∈ (revP p).funcs ↔ g ∈ p.funcs := fun g => by simp [revP]
  cases h1 : fnOf p s with
  | none =>
    cases h2 : fnOf (revP p) s with
    | none => rfl
    | some g =>
      obtain ⟨q1, q2⟩ := mem_of_fnOf h2
      exact absurd q2 (fnOf_none h1 g ((hm g).1 q1))
  | some g =>
    obtain ⟨q1, q2⟩ := mem_of_fnOf h1
    cases h2 : fnOf (revP p) s with
    | none => exact absurd q2 (fnOf_none h2 g ((hm g).2 q1))
    | some g' =>
      obtain ⟨q3, q4⟩ := mem_of_fnOf h2
      rw [nodup_name h ((hm g').1 q3) q1 (by rw [q4, q2])]
theorem run_rev (p : Pr) (nm : List UInt8) (args : List Int) (fuel : Int) : runS (revP p) nm args fuel = runS p nm args fuel := by
  unfold runS
  rw [chk_rev]
  split
  · rfl
  · rename_i h
    have hv := valid_of (p := p) (by
      by_cases e : chkS p = 0
      · exact e
      · exact absurd (.inl e) h)
    have e := fnOf_rev hv.fn
    rw [e]
    cases fnOf p nm with
    | none => rfl
    | some g =>
      simp only []
      split
      · rfl
      · unfold ocS endV endS
        rw [e]
        rfl

/-! ### a run that has stopped -/
theorem trapS_stop {c : Ctl} {k : Int} (h : c.en ≠ 0) : trapS c k = c := by unfold trapS; rw [if_neg h]
theorem tickS_stop {c : Ctl} (h : c.en ≠ 0) : tickS c = c := by unfold tickS; rw [if_pos h]
theorem evL_stop {A : Arrs} {f : Vars} {c : Ctl} (h : c.en ≠ 0) : ∀ l, (evL A f l c).1 = c
  | [] => rfl
  | e :: r => by rw [evL]; simp only []; rw [evX_stop h]; exact evL_stop h r
theorem storeC_stop {A : Arrs} {s : List UInt8} {a : Int} {c : Ctl} (h : c.en ≠ 0) : storeC A s a c = c := by unfold storeC; split; exact trapS_stop h; rfl
theorem exL_stop {fs : List UInt8 → Option Fn1} {s : St} (h : s.c.en ≠ 0) : ∀ l, exL fs l s = s
  | [] => exL_nil fs s
  | x :: r => by rw [exL_cons, if_pos h]
theorem exS_none (fs : List UInt8 → Option Fn1) {nm to : List UInt8} {n : Int} {a v : Exp} {args : List Exp} {thn els : List Stm} {s : St} (h : fs to = none) : exS fs (.mk 6 nm to n a v args thn els) s = s := by
  rw [exS.eq_def]; simp only []
  rw [if_neg (by decide), if_neg (by decide), if_neg (by decide), if_neg (by decide), if_neg (by decide), if_pos trivial, h]
/-- By kinds. -/
theorem kind_cases (k : Int) : k = 1 ∨ k = 2 ∨ k = 3 ∨ k = 4 ∨ k = 5 ∨ k = 6 ∨ k = 7 ∨ (¬ k = 1 ∧ ¬ k = 2 ∧ ¬ k = 3 ∧ ¬ k = 4 ∧ ¬ k = 5 ∧ ¬ k = 6 ∧ ¬ k = 7) := by omega
theorem exS_stop (fs : List UInt8 → Option Fn1) (x : Stm) {s : St} (h : s.c.en ≠ 0) : (exS fs x s).c = s.c ∧ (exS fs x s).out = s.out := by
  match x with
  | .mk k nm to n a v args thn els =>
    rcases kind_cases k with rfl | rfl | rfl | rfl | rfl | rfl | rfl | ⟨h1, h2, h3, h4, h5, h6, h7⟩
    · rw [exS_assign, evX_stop h]; exact ⟨rfl, rfl⟩
    · rw [exS_store, evX_stop h]; simp only []; rw [evX_stop h]; simp only []; rw [storeC_stop h]; exact ⟨by first | rfl | trivial, by first | rfl | trivial⟩
    · rw [exS_if, evX_stop h]; simp only [ne_eq, not_true_eq_false, if_false]; rw [exL_stop h]; exact ⟨rfl, rfl⟩
    · rw [exS_while_stop fs h]; exact ⟨rfl, rfl⟩
    · rw [exS_out, evX_stop h]; simp only []; rw [if_neg h]; exact ⟨by first | rfl | trivial, by first | rfl | trivial⟩
    · cases hg : fs to with
      | none => rw [exS_none fs hg]; exact ⟨rfl, rfl⟩
      | some g =>
        rw [exS_call fs hg, evL_stop h, tickS_stop h, if_neg h]; exact ⟨rfl, rfl⟩
    · rw [exS_trap, trapS_stop h]; exact ⟨rfl, rfl⟩
    · rw [exS_other fs h1 h2 h3 h4 h5 h6 h7]; exact ⟨rfl, rfl⟩

/-! ### the output only grows -/
theorem ex_grow (fs : List UInt8 → Option Fn1) : ∀ n m : Nat, (∀ x s, s.c.fuel ≤ n → htS x ≤ m → s.out <+: (exS fs x s).out) ∧ (∀ l s, s.c.fuel ≤ n → htSl l ≤ m → s.out <+: (exL fs l s).out) := by
  intro n
  induction n using Nat.strongRecOn
  rename_i n ihn
  intro m
  induction m using Nat.strongRecOn
  rename_i m ihm
  refine ⟨fun x s hn hm => ?_, fun l s hn hm => ?_⟩
  · match x, hm with
    | .mk k nm to q a v args thn els, hm =>
      simp only [htS] at hm
      rcases kind_cases k with rfl | rfl | rfl | rfl | rfl | rfl | rfl | ⟨h1, h2, h3, h4, h5, h6, h7⟩
      · rw [exS_assign]; exact List.prefix_refl _
      · rw [exS_store]; exact List.prefix_refl _
      · rw [exS_if]
        split
        · exact (ihm (htSl thn) (by omega)).2 thn { s with c := (evX s.A s.f v s.c).1 } (by simp only [evX_fuel]; exact hn) (Nat.le_refl _)
        · exact (ihm (htSl els) (by omega)).2 els { s with c := (evX s.A s.f v s.c).1 } (by simp only [evX_fuel]; exact hn) (Nat.le_refl _)
      · rw [exS_while]
        have e0 := evX_fuel s.A s.f v s.c
        split
        · rename_i hc
          split
          · rename_i ht
            have hlt := tickS_lt hc.2 ht
            rw [e0] at hlt
            have h6 := (ihm (htSl thn) (by omega)).2 thn { s with c := tickS (evX s.A s.f v s.c).1 } (by simp only []; omega) (Nat.le_refl _)
            have h7 := exL_fuel fs thn { s with c := tickS (evX s.A s.f v s.c).1 }
            simp only [] at h6 h7
            exact List.IsPrefix.trans h6 ((ihn _ (by omega) _).1 (.mk 4 nm to q a v args thn els) (exL fs thn { s with c := tickS (evX s.A s.f v s.c).1 }) (Nat.le_refl _) (Nat.le_refl _))
          · exact List.prefix_refl _
        · exact List.prefix_refl _
      · rw [exS_out]
        simp only []
        split
        · exact List.prefix_append _ _
        · exact List.prefix_refl _
      · cases hg : fs to with
        | none => rw [exS_none fs hg]; exact List.prefix_refl _
        | some g =>
          rw [exS_call fs hg]
          have e0 := evL_fuel s.A s.f args s.c
          split
          · rename_i ht
            have hlt := tickS_lt (tickS_en ht) ht
            rw [e0] at hlt
            exact (ihn (tickS (evL s.A s.f args s.c).1).fuel (by omega) (htSl g.body)).2 g.body { s with c := tickS (evL s.A s.f args s.c).1, f := bind g.params (evL s.A s.f args s.c).2 } (Nat.le_refl _) (Nat.le_refl _)
          · exact List.prefix_refl _
      · rw [exS_trap]; exact List.prefix_refl _
      · rw [exS_other fs h1 h2 h3 h4 h5 h6 h7]; exact List.prefix_refl _
  · match l, hm with
    | [], hm => rw [exL_nil]; exact List.prefix_refl _
    | x :: r, hm =>
      simp only [htSl] at hm
      rw [exL_cons]
      split
      · exact List.prefix_refl _
      · have h1 := (ihm (htS x) (by omega)).1 x s hn (Nat.le_refl _)
        have h0 := exS_fuel fs x s
        exact List.IsPrefix.trans h1 ((ihm (htSl r) (by omega)).2 r (exS fs x s) (by omega) (Nat.le_refl _))
theorem exS_grow (fs : List UInt8 → Option Fn1) (x : Stm) (s : St) : s.out <+: (exS fs x s).out := (ex_grow fs _ _).1 x s (Nat.le_refl _) (Nat.le_refl _)
theorem exL_grow (fs : List UInt8 → Option Fn1) (l : List Stm) (s : St) : s.out <+: (exL fs l s).out := (ex_grow fs _ _).2 l s (Nat.le_refl _) (Nat.le_refl _)

/-! ### more fuel -/
def bump (k : Nat) (c : Ctl) : Ctl := { c with fuel := c.fuel + k }
theorem bump_en (k : Nat) (c : Ctl) : (bump k c).en = c.en := rfl
theorem trap_bump (k : Nat) (c : Ctl) (n : Int) : trapS (bump k c) n = bump k (trapS c n) := by unfold trapS; rw [bump_en]; split <;> rfl
theorem evX_bump (A : Arrs) (f : Vars) (k : Nat) (e : Exp) : ∀ c, evX A f e (bump k c) = (bump k (evX A f e c).1, (evX A f e c).2) := by
  refine Exp.ind (Q := fun e => ∀ c, evX A f e (bump k c) = (bump k (evX A f e c).1, (evX A f e c).2)) (fun q n nm o kids ih => ?_) e
  intro c
  by_cases h : c.en = 0
  · match kids, ih with
    | [], _ =>
      rw [evX.eq_def, evX.eq_def A f _ c]
      simp only [bump_en, h, ne_eq, not_true_eq_false, if_false]
      (repeat' split) <;> rfl
    | [a], ih =>
      have ha := ih a (by simp) c
      rw [evX.eq_def, evX.eq_def A f _ c]
      simp only [bump_en, h, ne_eq, not_true_eq_false, if_false, ha]
      (repeat' split) <;> simp only [trap_bump]
    | [a, b], ih =>
      have ha := ih a (by simp) c
      have hb := ih b (by simp)
      rw [evX.eq_def, evX.eq_def A f _ c]
      simp only [bump_en, h, ne_eq, not_true_eq_false, if_false, ha, hb]
      (repeat' split) <;> simp only [trap_bump]
    | a :: b :: d :: t, ih =>
      have ha := ih a (by simp) c
      have hb := ih b (by simp)
      have hd := ih d (by simp)
      rw [evX.eq_def, evX.eq_def A f _ c]
      simp only [bump_en, h, ne_eq, not_true_eq_false, if_false, ha, hb, hd]
      (repeat' split) <;> simp only [trap_bump]
  · rw [evX_stop (by rw [bump_en]; exact h), evX_stop h]
theorem evL_bump (A : Arrs) (f : Vars) (k : Nat) : ∀ (l : List Exp) (c : Ctl), evL A f l (bump k c) = (bump k (evL A f l c).1, (evL A f l c).2)
  | [], c => rfl
  | e :: r, c => by
    simp only [evL]
    rw [evX_bump]
    simp only []
    rw [evL_bump A f k r]
theorem store_bump (A : Arrs) (s : List UInt8) (a : Int) (k : Nat) (c : Ctl) : storeC A s a (bump k c) = bump k (storeC A s a c) := by unfold storeC; rw [trap_bump]; split <;> rfl
/-- How two runs stand, the second with k more units: they go alike, or the first has run out. -/
def Alike (k : Nat) (s t : St) : Prop := (s.c.en ≠ 3 ∧ t = { s with c := bump k s.c }) ∨ (s.c.en = 3 ∧ s.out <+: t.out)
theorem tick_alike {k : Nat} {c : Ctl} (h : c.en ≠ 3) : ((tickS c).en ≠ 3 ∧ tickS (bump k c) = bump k (tickS c)) ∨ (tickS c).en = 3 := by
  unfold tickS
  rw [bump_en]
  by_cases h0 : c.en ≠ 0
  · rw [if_pos h0, if_pos h0]; exact .inl ⟨h, rfl⟩
  · rw [if_neg h0, if_neg h0]
    by_cases hf : c.fuel = 0
    · rw [if_pos hf]; exact .inr rfl
    · rw [if_neg hf, if_neg (show ¬ (bump k c).fuel = 0 from by show ¬ c.fuel + k = 0; omega)]
      refine .inl ⟨h, ?_⟩
      show Ctl.mk (c.fuel + k - 1) c.en c.code = Ctl.mk (c.fuel - 1 + k) c.en c.code
      congr 1; omega
theorem alikeL {k : Nat} {fs : List UInt8 → Option Fn1} {l : List Stm} {s t : St} (h : s.c.en = 3) (ho : s.out <+: t.out) : Alike k (exL fs l s) (exL fs l t) := by
  rw [exL_stop (by omega)]
  exact .inr ⟨h, List.IsPrefix.trans ho (exL_grow fs l t)⟩
theorem alikeS {k : Nat} {fs : List UInt8 → Option Fn1} {x : Stm} {s t : St} (h : s.c.en = 3) (ho : s.out <+: t.out) : Alike k (exS fs x s) (exS fs x t) := by
  obtain ⟨h1, h2⟩ := exS_stop fs x (s := s) (by omega)
  exact .inr ⟨by rw [h1]; exact h, by rw [h2]; exact List.IsPrefix.trans ho (exS_grow fs x t)⟩
theorem ev_en {A : Arrs} {f : Vars} {e : Exp} : ∀ {c : Ctl}, c.en ≠ 3 → (evX A f e c).1.en ≠ 3 := by
  refine Exp.ind (Q := fun e => ∀ {c : Ctl}, c.en ≠ 3 → (evX A f e c).1.en ≠ 3) (fun q n nm o kids ih => ?_) e
  intro c h
  have tr : ∀ (c : Ctl) (k : Int), c.en ≠ 3 → (trapS c k).en ≠ 3 := fun c k h => by
    unfold trapS; split
    · show (2 : Int) ≠ 3; decide
    · exact h
  match kids, ih with
  | [], _ =>
    rw [evX.eq_def]; simp only []
    (repeat' split) <;> exact h
  | [a], ih =>
    have ha := ih a (by simp) h
    rw [evX.eq_def]; simp only []
    (repeat' split) <;> first | exact h | exact ha | exact tr _ _ ha
  | [a, b], ih =>
    have ha := ih a (by simp) h
    have hb := ih b (by simp) ha
    rw [evX.eq_def]; simp only []
    (repeat' split) <;> first | exact h | exact ha | exact tr _ _ ha | exact hb | exact tr _ _ hb
  | a :: b :: d :: t, ih =>
    have ha := ih a (by simp) h
    have hb := ih b (by simp) ha
    have hd := ih d (by simp) ha
    rw [evX.eq_def]; simp only []
    (repeat' split) <;> first | exact h | exact ha | exact tr _ _ ha | exact hb | exact tr _ _ hb | exact hd
theorem evL_en {A : Arrs} {f : Vars} : ∀ {l : List Exp} {c : Ctl}, c.en ≠ 3 → (evL A f l c).1.en ≠ 3
  | [], c, h => h
  | e :: r, c, h => by rw [evL]; exact evL_en (ev_en h)
theorem trap_en {c : Ctl} {k : Int} (h : c.en ≠ 3) : (trapS c k).en ≠ 3 := by
  unfold trapS; split
  · show (2 : Int) ≠ 3; decide
  · exact h
theorem ex_alike (k : Nat) (fs : List UInt8 → Option Fn1) : ∀ n m : Nat,
    (∀ x s, s.c.fuel ≤ n → htS x ≤ m → s.c.en ≠ 3 → Alike k (exS fs x s) (exS fs x { s with c := bump k s.c })) ∧ (∀ l s, s.c.fuel ≤ n → htSl l ≤ m → s.c.en ≠ 3 → Alike k (exL fs l s) (exL fs l { s with c := bump k s.c })) := by
  intro n
  induction n using Nat.strongRecOn
  rename_i n ihn
  intro m
  induction m using Nat.strongRecOn
  rename_i m ihm
  refine ⟨fun x s hn hm hen => ?_, fun l s hn hm hen => ?_⟩
  · match x, hm with
    | .mk q nm to z a v args thn els, hm =>
      simp only [htS] at hm
      obtain ⟨c, A, f, out⟩ := s
      simp only [] at hn hen
      have eb : ∀ e c, evX A f e (bump k c) = (bump k (evX A f e c).1, (evX A f e c).2) := evX_bump A f k
      rcases kind_cases q with rfl | rfl | rfl | rfl | rfl | rfl | rfl | ⟨h1, h2, h3, h4, h5, h6, h7⟩
      · rw [exS_assign, exS_assign]; simp only [eb]
        exact .inl ⟨ev_en hen, rfl⟩
      · rw [exS_store, exS_store]; simp only [eb, store_bump, bump_en]
        refine .inl ⟨?_, rfl⟩
        show (storeC _ _ _ _).en ≠ 3
        unfold storeC
        split
        · exact trap_en (ev_en (ev_en hen))
        · exact ev_en (ev_en hen)
      · rw [exS_if, exS_if]; simp only [eb]
        by_cases h : (evX A f v c).2 ≠ 0
        · rw [if_pos h, if_pos h]
          exact (ihm (htSl thn) (by omega)).2 thn ⟨(evX A f v c).1, A, f, out⟩ (by simp only [evX_fuel]; exact hn) (Nat.le_refl _) (ev_en hen)
        · rw [if_neg h, if_neg h]
          exact (ihm (htSl els) (by omega)).2 els ⟨(evX A f v c).1, A, f, out⟩ (by simp only [evX_fuel]; exact hn) (Nat.le_refl _) (ev_en hen)
      · rw [exS_while, exS_while (s := { c := bump k c, A := A, f := f, out := out })]; simp only [eb, bump_en]
        by_cases hc : (evX A f v c).2 ≠ 0 ∧ (evX A f v c).1.en = 0
        · rw [if_pos hc, if_pos hc]
          rcases tick_alike (k := k) (ev_en (A := A) (f := f) (e := v) hen) with ⟨q1, q2⟩ | q1
          · rw [q2, bump_en]
            by_cases ht : (tickS (evX A f v c).1).en = 0
            · rw [if_pos ht, if_pos ht]
              have hlt := tickS_lt hc.2 ht
              rw [evX_fuel] at hlt
              have h7 := exL_fuel fs thn ⟨tickS (evX A f v c).1, A, f, out⟩
              simp only [] at h7
              rcases (ihm (htSl thn) (by omega)).2 thn ⟨tickS (evX A f v c).1, A, f, out⟩ (by simp only []; omega) (Nat.le_refl _) q1 with ⟨r1, r2⟩ | ⟨r1, r2⟩
              · rw [r2]
                exact (ihn _ (by omega) _).1 (.mk 4 nm to z a v args thn els) (exL fs thn ⟨tickS (evX A f v c).1, A, f, out⟩) (Nat.le_refl _) (Nat.le_refl _) r1
              · exact alikeS r1 r2
            · rw [if_neg ht, if_neg ht]
              exact .inl ⟨q1, rfl⟩
          · rw [if_neg (by omega)]
            refine .inr ⟨q1, ?_⟩
            show out <+: _
            split
            · exact List.IsPrefix.trans (exL_grow fs thn ⟨tickS (bump k (evX A f v c).1), A, f, out⟩) (exS_grow fs _ _)
            · exact List.prefix_refl _
        · rw [if_neg hc, if_neg hc]
          exact .inl ⟨ev_en hen, rfl⟩
      · rw [exS_out, exS_out]; simp only [eb, bump_en]
        exact .inl ⟨ev_en hen, rfl⟩
      · cases hg : fs to with
        | none => rw [exS_none fs hg, exS_none fs hg]; exact .inl ⟨hen, rfl⟩
        | some g =>
          rw [exS_call fs hg, exS_call fs hg]; simp only [evL_bump]
          rcases tick_alike (k := k) (evL_en (A := A) (f := f) (l := args) hen) with ⟨q1, q2⟩ | q1
          · rw [q2, bump_en]
            by_cases ht : (tickS (evL A f args c).1).en = 0
            · rw [if_pos ht, if_pos ht]
              have hlt := tickS_lt (tickS_en ht) ht
              rw [evL_fuel] at hlt
              rcases (ihn (tickS (evL A f args c).1).fuel (by omega) (htSl g.body)).2 g.body ⟨tickS (evL A f args c).1, A, bind g.params (evL A f args c).2, out⟩ (Nat.le_refl _) (Nat.le_refl _) q1 with ⟨r1, r2⟩ | ⟨r1, r2⟩
              · simp only [] at r2
                rw [r2]
                simp only []
                rw [evX_bump]
                exact .inl ⟨ev_en r1, rfl⟩
              · refine .inr ⟨?_, r2⟩
                rw [evX_stop (by omega)]; exact r1
            · rw [if_neg ht, if_neg ht]
              exact .inl ⟨q1, rfl⟩
          · rw [if_neg (by omega)]
            refine .inr ⟨q1, ?_⟩
            show out <+: _
            split
            · exact exL_grow fs g.body ⟨tickS (bump k (evL A f args c).1), A, bind g.params (evL A f args c).2, out⟩
            · exact List.prefix_refl _
      · rw [exS_trap, exS_trap]; simp only [trap_bump]
        exact .inl ⟨trap_en hen, rfl⟩
      · rw [exS_other fs h1 h2 h3 h4 h5 h6 h7, exS_other fs h1 h2 h3 h4 h5 h6 h7]; exact .inl ⟨hen, rfl⟩
  · match l, hm with
    | [], hm => rw [exL_nil, exL_nil]; exact .inl ⟨hen, rfl⟩
    | x :: r, hm =>
      simp only [htSl] at hm
      by_cases h0 : s.c.en ≠ 0
      · rw [exL_stop h0, exL_stop (show ({ s with c := bump k s.c } : St).c.en ≠ 0 from h0)]; exact .inl ⟨hen, rfl⟩
      · rw [exL_cons, if_neg h0, exL_cons (s := { s with c := bump k s.c }), if_neg (show ¬ ({ s with c := bump k s.c } : St).c.en ≠ 0 from h0)]
        have hfl := exS_fuel fs x s
        rcases (ihm (htS x) (by omega)).1 x s hn (Nat.le_refl _) hen with ⟨r1, r2⟩ | ⟨r1, r2⟩
        · rw [r2]
          exact (ihm (htSl r) (by omega)).2 r (exS fs x s) (by omega) (Nat.le_refl _) r1
        · exact alikeL r1 r2
theorem exL_alike (k : Nat) (fs : List UInt8 → Option Fn1) (l : List Stm) (s : St) (h : s.c.en ≠ 3) : Alike k (exL fs l s) (exL fs l { s with c := bump k s.c }) := (ex_alike k fs _ _).2 l s (Nat.le_refl _) (Nat.le_refl _) h
/-- THE LAW. -/
theorem oc_more (p : Pr) (g : Fn1) (args : List Int) (f k : Nat) :
    (((ocS p g args f).kind ≠ 3) → ocS p g args f = ocS p g args (f + k) ∧ ((ocS p g args f).kind = 1 ∨ (ocS p g args f).kind = 2)) ∧
    ((ocS p g args f).kind = 3 → (ocS p g args f).out <+: (ocS p g args (f + k)).out ∧ (ocS p g args f).code = 0 ∧ (ocS p g args f).value = 0) := by
  have h := exL_alike k (fnOf p) g.body ⟨⟨f, 0, 0⟩, arr0 p.arrays, bind g.params args, []⟩ (by show (0 : Int) ≠ 3; decide)
  change Alike k (endS p g args f) (endS p g args (f + k)) at h
  have ho : (ocS p g args (f + k)).out = (endS p g args (f + k)).out := by unfold ocS; (repeat' split) <;> rfl
  rcases h with ⟨h1, h2⟩ | ⟨h1, h2⟩
  · have e1 : endV p g args (f + k) = (bump k (endV p g args f).1, (endV p g args f).2) := by
      unfold endV
      rw [h2]
      simp only []
      rw [evX_bump]
    have e2 : (endS p g args (f + k)).out = (endS p g args f).out := by rw [h2]
    have hen : (endV p g args f).1.en ≠ 3 := ev_en h1
    have e3 : ocS p g args (f + k) = ocS p g args f := by
      unfold ocS
      rw [e1, e2]
      rfl
    refine ⟨fun _ => ⟨e3.symm, ?_⟩, fun h3 => ?_⟩
    · unfold ocS
      by_cases q : (endV p g args f).1.en = 2
      · rw [if_pos q]; exact .inr rfl
      · rw [if_neg q, if_neg hen]; exact .inl rfl
    · exfalso
      unfold ocS at h3
      by_cases q : (endV p g args f).1.en = 2
      · rw [if_pos q] at h3; cases h3
      · rw [if_neg q, if_neg hen] at h3; cases h3
  · have hv : (endV p g args f).1 = (endS p g args f).c := by unfold endV; rw [evX_stop (by omega)]
    have e : ocS p g args f = ⟨3, 0, (endS p g args f).out, 0⟩ := by
      unfold ocS
      rw [hv, if_neg (by omega), if_pos h1]
    rw [e, ho]
    exact ⟨fun h => absurd rfl h, fun _ => ⟨h2, rfl, rfl⟩⟩
end Go.Proofs.Ytnhobbjbgljpnaa
