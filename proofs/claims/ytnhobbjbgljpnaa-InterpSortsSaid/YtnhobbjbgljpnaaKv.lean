/-
  THE ORDER OF THE FUNCTIONS in plain Lean: what Check answers does not depend on it. Written in this session.
-/
import Derived.Test.YtnhobbjbgljpnaaKt
namespace Go.Proofs.Ytnhobbjbgljpnaa
open Go.Ea
set_option maxRecDepth 100000
set_option linter.unusedVariables false
set_option linter.unusedSimpArgs false
def revP (p : Pr) : Pr := ⟨p.arrays, p.funcs.reverse⟩
theorem dup_iff : ∀ (l seen : List (List UInt8)), dup seen l = false ↔ l.Nodup ∧ ∀ s ∈ l, s ∉ seen
  | [], seen => ⟨fun _ => ⟨List.nodup_nil, fun _ h => by cases h⟩, fun _ => rfl⟩
  | s :: r, seen => by
    rw [dup_cons, Bool.or_eq_false_iff, decide_eq_false_iff_not, dup_iff r (s :: seen), List.nodup_cons]
    constructor
    · rintro ⟨h1, h2, h3⟩
      refine ⟨⟨fun hm => h3 s hm (by simp), h2⟩, fun t ht => ?_⟩
      rcases List.mem_cons.1 ht with rfl | ht
      · exact h1
      · exact fun hm => h3 t ht (by simp [hm])
    · rintro ⟨⟨h1, h2⟩, h3⟩
      refine ⟨h3 s (by simp), h2, fun t ht hm => ?_⟩
      rcases List.mem_cons.1 hm with rfl | hm
      · exact h1 ht
      · exact h3 t (by simp [ht]) hm
theorem nodup_rev {A : Type} (l : List A) : l.reverse.Nodup ↔ l.Nodup := by
  unfold List.Nodup
  rw [List.pairwise_reverse]
  constructor <;> intro h <;> exact h.imp fun h => h.symm
theorem dup_rev (l : List (List UInt8)) : dup [] l.reverse = dup [] l := by
  have h : dup [] l.reverse = false ↔ dup [] l = false := by rw [dup_iff, dup_iff]; simp [nodup_rev]
  cases h1 : dup [] l.reverse <;> cases h2 : dup [] l <;> simp_all
/-- A number by name, where no name stands twice. -/
theorem mpL_iff {l : List (List UInt8 × Nat)} (h : (l.map (·.1)).Nodup) (s : List UInt8) (n : Nat) : mpL l s = some n ↔ (s, n) ∈ l := by
  unfold mpL
  constructor
  · intro hm
    cases hf : l.reverse.find? (fun p => decide (p.1 = s)) with
    | none => rw [hf] at hm; cases hm
    | some q =>
      rw [hf] at hm
      simp only [Option.map_some, Option.some.injEq] at hm
      have h1 := List.find?_some hf
      have h2 := List.mem_of_find?_eq_some hf
      simp only [decide_eq_true_eq] at h1
      rw [List.mem_reverse] at h2
      rw [← h1, ← hm]; exact h2
  · intro hm
    cases hf : l.reverse.find? (fun p => decide (p.1 = s)) with
    | none =>
      rw [List.find?_eq_none] at hf
      exact absurd (decide_eq_true rfl) (hf (s, n) (by simpa using hm))
    | some q =>
      have h1 := List.find?_some hf
      have h2 := List.mem_of_find?_eq_some hf
      simp only [decide_eq_true_eq] at h1
      rw [List.mem_reverse] at h2
      have : q = (s, n) := by
        have key : ∀ (l : List (List UInt8 × Nat)), (l.map (·.1)).Nodup → ∀ a ∈ l, ∀ b ∈ l, a.1 = b.1 → a = b := by
          intro l
          induction l with
          | nil => intro _ a ha; cases ha
          | cons x r ih =>
            intro hn a ha b hb e
            rw [List.map_cons, List.nodup_cons] at hn
            rcases List.mem_cons.1 ha with ha' | ha'
            · rcases List.mem_cons.1 hb with hb' | hb'
              · rw [ha', hb']
              · exact absurd (List.mem_map.2 ⟨b, hb', by rw [← e, ha']⟩ : x.1 ∈ r.map (·.1)) hn.1
            · rcases List.mem_cons.1 hb with hb' | hb'
              · exact absurd (List.mem_map.2 ⟨a, ha', by rw [e, hb']⟩ : x.1 ∈ r.map (·.1)) hn.1
              · exact ih hn.2 a ha' b hb' e
        exact key l h q h2 (s, n) hm h1
      rw [this]; rfl
theorem mpL_mem {l m : List (List UInt8 × Nat)} (h : (l.map (·.1)).Nodup) (h' : (m.map (·.1)).Nodup) (hm : ∀ x, x ∈ l ↔ x ∈ m) : mpL l = mpL m := by
  funext s
  cases h1 : mpL l s with
  | some n => exact ((mpL_iff h' s n).2 ((hm _).1 ((mpL_iff h s n).1 h1))).symm
  | none =>
    cases h2 : mpL m s with
    | none => rfl
    | some n => rw [(mpL_iff h s n).2 ((hm _).2 ((mpL_iff h' s n).1 h2))] at h1; cases h1
/-! ### what the last pass comes to -/
def badR (F : List UInt8 → Option Nat) (a : Stm × Nat) : Bool := decide (a.1.kind = 6) && (match F a.1.to with
  | none => false
  | some n => !decide (n = a.1.args.length))
theorem stepR_fst {V A : List UInt8 → Bool} {F : List UInt8 → Option Nat} (w w' : Int) (a : Stm × Nat) : (stepR V A F w a).1 = (stepR V A F w' a).1 := by
  unfold stepR
  (repeat' split) <;> rfl
theorem stepR_snd {V A : List UInt8 → Bool} {F : List UInt8 → Option Nat} (w : Int) (a : Stm × Nat) (h : (stepR V A F w a).1 = true) : (stepR V A F w a).2 = bif badR F a then 5 else w := by
  obtain ⟨x, d⟩ := a
  by_cases k1 : x.kind = 1
  · rw [stepR_1 k1]; unfold badR; rw [decide_eq_false (show ¬ x.kind = 6 by omega)]; rfl
  by_cases k2 : x.kind = 2
  · rw [stepR_2 k2]; unfold badR; rw [decide_eq_false (show ¬ x.kind = 6 by omega)]; rfl
  by_cases k6 : x.kind = 6
  · cases hF : F x.to with
    | none => rw [stepR_6n k6 hF] at h; cases h
    | some n =>
      rw [stepR_6s k6 hF]
      unfold badR
      simp only [hF, decide_eq_true k6, Bool.true_and]
      by_cases e : n = x.args.length
      · rw [if_neg (by omega), decide_eq_true e]; rfl
      · rw [if_pos (by omega), decide_eq_false e]; rfl
  · rw [stepR_0 k1 k2 k6]; unfold badR; rw [decide_eq_false (show ¬ x.kind = 6 from k6)]; rfl
theorem runR_eq {V A : List UInt8 → Bool} {F : List UInt8 → Option Nat} : ∀ (l : List (Stm × Nat)) (w : Int), (runL (stepR V A F) w l).1 = l.all (fun a => (stepR V A F 0 a).1) ∧ ((runL (stepR V A F) w l).1 = true → (runL (stepR V A F) w l).2 = bif l.any (badR F) then 5 else w)
  | [], w => ⟨rfl, fun _ => rfl⟩
  | a :: r, w => by
    simp only [runL, List.all_cons, List.any_cons]
    rw [stepR_fst 0 w a]
    by_cases h : (stepR V A F w a).1 = true
    · rw [if_pos h, h, Bool.true_and]
      obtain ⟨h1, h2⟩ := runR_eq r (stepR V A F w a).2
      refine ⟨h1, fun h3 => ?_⟩
      rw [h2 h3, stepR_snd w a h]
      cases e : badR F a with
      | true => rw [Bool.true_or]; simp only [cond_true]; cases r.any _ <;> rfl
      | false => rw [Bool.false_or]; rfl
    · rw [if_neg h]
      have h' : (stepR V A F w a).1 = false := by simpa using h
      rw [h', Bool.false_and]
      exact ⟨rfl, fun h => by cases h⟩
noncomputable def okFn (p : Pr) (f : Fn1) : Bool := (runF (stepV (inV f) (inA p)) () f).1 && (preSl 0 f.body).all fun a => (stepR (inV f) (inA p) (arity p) 0 a).1
noncomputable def badF (p : Pr) (f : Fn1) : Bool := (preSl 0 f.body).any (badR (arity p))
theorem resF_eq (p : Pr) (w : Int) (f : Fn1) : (resF p w f).1 = okFn p f ∧ ((resF p w f).1 = true → (resF p w f).2 = bif badF p f then 5 else w) := by
  unfold resF okFn badF
  by_cases h : (runF (stepV (inV f) (inA p)) () f).1 = true
  · rw [if_pos h, h, Bool.true_and]
    exact runR_eq _ w
  · rw [if_neg h]
    have h' : (runF (stepV (inV f) (inA p)) () f).1 = false := by simpa using h
    rw [h', Bool.false_and]
    exact ⟨rfl, fun h => by cases h⟩
theorem runP_eq (p : Pr) : ∀ (l : List Fn1) (w : Int), (runL (resF p) w l).1 = l.all (okFn p) ∧ ((runL (resF p) w l).1 = true → (runL (resF p) w l).2 = bif l.any (badF p) then 5 else w)
  | [], w => ⟨rfl, fun _ => rfl⟩
  | f :: r, w => by
    simp only [runL, List.all_cons, List.any_cons]
    obtain ⟨q1, q2⟩ := resF_eq p w f
    by_cases h : (resF p w f).1 = true
    · rw [if_pos h, ← q1, h, Bool.true_and]
      obtain ⟨h1, h2⟩ := runP_eq p r (resF p w f).2
      refine ⟨h1, fun h3 => ?_⟩
      rw [h2 h3, q2 h]
      cases e : badF p f with
      | true => rw [Bool.true_or]; simp only [cond_true]; cases r.any _ <;> rfl
      | false => rw [Bool.false_or]; rfl
    · rw [if_neg h, ← q1]
      have h' : (resF p w f).1 = false := by simpa using h
      rw [h', Bool.false_and]
      exact ⟨rfl, fun h => by cases h⟩
theorem resP_eq (p : Pr) : resP p = if p.funcs.all (okFn p) = true then (bif p.funcs.any (badF p) then 5 else 0) else 3 := by
  unfold resP
  obtain ⟨h1, h2⟩ := runP_eq p p.funcs 0
  rw [← h1]
  split
  · rename_i h; exact h2 h
  · rfl
theorem arity_rev {p : Pr} (h : (p.funcs.map Fn1.name).Nodup) : arity (revP p) = arity p := by
  unfold arity revP
  refine mpL_mem (by simp only [List.map_map]; rw [List.map_reverse]; exact (nodup_rev _).2 h) (by simp only [List.map_map]; exact h) fun x => ?_
  simp only [List.map_reverse, List.mem_reverse]
/-- THE LAW. -/
theorem chk_rev (p : Pr) : chkS (revP p) = chkS p := by
  have h1 : limP (revP p) = limP p := by
    unfold limP revP
    simp only [List.length_reverse, List.all_reverse]
  have h2 : wfPr (revP p) = wfPr p := by
    unfold wfPr revP
    simp only [List.all_reverse]
  have h3 : dupP (revP p) = dupP p := by
    unfold dupP
    have e1 : [(revP p).funcs.map Fn1.name].flatten = ([p.funcs.map Fn1.name].flatten).reverse := by simp [revP, List.map_reverse]
    have e2 : (revP p).funcs.all (nd (revP p)) = p.funcs.all (nd p) := by
      show p.funcs.reverse.all (nd p) = _
      rw [List.all_reverse]
    rw [e1, dup_rev, e2]
    rfl
  unfold chkS
  rw [h1, h2, h3]
  split
  · rfl
  split
  · rfl
  split
  · rfl
  · rename_i hd
    have hn : (p.funcs.map Fn1.name).Nodup := by
      have hd : dupP p = false := by simpa using hd
      unfold dupP at hd
      simp only [Bool.or_eq_false_iff] at hd
      have := ((dup_iff _ _).1 hd.2.1).1
      simpa using this
    have ha := arity_rev hn
    rw [resP_eq, resP_eq]
    have e1 : okFn (revP p) = okFn p := by
      funext f
      unfold okFn
      rw [ha]; rfl
    have e2 : badF (revP p) = badF p := by
      funext f
      unfold badF
      rw [ha]
    rw [e1, e2]
    show (if p.funcs.reverse.all (okFn p) = true then (bif p.funcs.reverse.any (badF p) then 5 else 0) else 3) = _
    rw [List.all_reverse, List.any_reverse]
theorem low_rev {p : Pr} (h : LowP p) : LowP (revP p) := by
  obtain ⟨h1, h2, h3⟩ := h
  exact ⟨h1, by show p.funcs.reverse.length < _; rw [List.length_reverse]; exact h2, fun f hf => h3 f (by simpa [revP] using hf)⟩
end Go.Proofs.Ytnhobbjbgljpnaa
