/-
  MAPS with texts as keys, in the abstract heap. No seat's program in sight. Written in this session.
-/
import Derived.Test.YtceakkomleaibaaTa
namespace Go.Ea
set_option linter.unusedVariables false
abbrev Ents := List (List UInt8 × A1)
def ents (l : Ents) : List (AT × A1) := l.map fun p => (AT.str p.1, p.2)
def fnd (s : List UInt8) : Ents → Nat → Option (Nat × A1)
  | [], _ => none
  | p :: r, i => if p.1 = s then some (i, p.2) else fnd s r (i + 1)
def lkM (l : Ents) (s : List UInt8) : Option A1 := (fnd s l 0).map (·.2)
def upM (l : Ents) (s : List UInt8) (v : A1) : Ents := match fnd s l 0 with
  | some (i, _) => l.set i (s, v)
  | none => l ++ [(s, v)]
theorem findA_ents (s : List UInt8) : ∀ (l : Ents) (i : Nat), findA (.str s) (ents l) i = some (fnd s l i)
  | [], i => rfl
  | p :: r, i => by
    show findA (.str s) ((AT.str p.1, p.2) :: ents r) i = _
    unfold findA
    simp only [keyA, fnd]
    rw [eqS_eq]
    by_cases h : p.1 = s
    · subst h; simp
    · rw [show (s == p.1) = false from by simp; exact fun e => h e.symm, if_neg h]
      exact findA_ents s r (i + 1)
theorem fnd_shift (s : List UInt8) : ∀ (l : Ents) (i : Nat), fnd s l i = (fnd s l 0).map fun p => (p.1 + i, p.2)
  | [], i => rfl
  | p :: r, i => by
    simp only [fnd]
    split
    · simp
    · rw [fnd_shift s r (i + 1), fnd_shift s r 1]
      cases fnd s r 0 <;> simp; omega
theorem fnd_lt (s : List UInt8) : ∀ (l : Ents) (i : Nat) (v : A1), fnd s l 0 = some (i, v) → i < l.length
  | [], i, v, h => by cases h
  | p :: r, i, v, h => by
    simp only [fnd] at h
    split at h
    · cases h; simp
    · rw [fnd_shift] at h
      cases hr : fnd s r 0 with
      | none => rw [hr] at h; cases h
      | some q =>
        rw [hr] at h; cases h
        have := fnd_lt s r q.1 q.2 hr
        simp only [List.length_cons]; omega
theorem fnd_eq {p : List UInt8 × A1} {t : List UInt8} {r : Ents} {i : Nat} (h : p.1 = t) : fnd t (p :: r) i = some (i, p.2) := by unfold fnd; rw [if_pos h]
theorem fnd_ne {p : List UInt8 × A1} {t : List UInt8} {r : Ents} {i : Nat} (h : ¬ p.1 = t) : fnd t (p :: r) i = fnd t r (i + 1) := by
  conv => lhs; unfold fnd
  rw [if_neg h]
theorem fnd_app (s t : List UInt8) (v : A1) : ∀ (l : Ents), (fnd t (l ++ [(s, v)]) 0).map (·.2) = if (fnd t l 0).isSome then (fnd t l 0).map (·.2) else if s = t then some v else none
  | [] => by simp only [List.nil_append, fnd]; split <;> simp
  | p :: r => by
    rw [List.cons_append]
    by_cases h : p.1 = t
    · simp only [fnd_eq h, Option.isSome_some, if_true]
    · simp only [fnd_ne h]
      have := fnd_app s t v r
      rw [fnd_shift t (r ++ [(s, v)]) (0 + 1), fnd_shift t r (0 + 1)]
      cases h1 : fnd t (r ++ [(s, v)]) 0 <;> cases h2 : fnd t r 0 <;> simp_all
theorem fnd_set (s t : List UInt8) (v : A1) : ∀ (l : Ents) (i : Nat) (w : A1), fnd s l 0 = some (i, w) → (fnd t (l.set i (s, v)) 0).map (·.2) = if t = s then some v else (fnd t l 0).map (·.2)
  | [], i, w, h => by cases h
  | p :: r, i, w, h => by
    simp only [fnd] at h
    split at h
    · rename_i hp
      cases h
      simp only [List.set_cons_zero, fnd, hp]
      by_cases e : s = t
      · subst e; simp
      · rw [if_neg e, if_neg (fun x => e x.symm), if_neg e]
    · rename_i hp
      rw [fnd_shift] at h
      cases hr : fnd s r 0 with
      | none => rw [hr] at h; cases h
      | some q =>
        rw [hr] at h; cases h
        simp only [List.set_cons_succ, fnd]
        have ih := fnd_set s t v r q.1 q.2 hr
        by_cases e : p.1 = t
        · rw [if_pos e, if_pos e, if_neg (fun x => hp (e.trans x))]
        · rw [if_neg e, if_neg e, fnd_shift t (r.set q.1 (s, v)) 1, fnd_shift t r 1]
          simp only [Option.map_map]
          simpa [Function.comp_def] using ih
theorem lk_up (l : Ents) (s t : List UInt8) (v : A1) : lkM (upM l s v) t = if t = s then some v else lkM l t := by
  unfold lkM upM
  cases h : fnd s l 0 with
  | some q => exact fnd_set s t v l q.1 q.2 h
  | none =>
    simp only [fnd_app]
    by_cases e : t = s
    · subst e; rw [h]; simp
    · rw [if_neg e]
      cases h2 : fnd t l 0 with
      | some q => simp
      | none => simp; exact fun x => absurd x.symm e
theorem lk_nil (s : List UInt8) : lkM [] s = none := rfl
theorem ents_up (l : Ents) (s : List UInt8) (v : A1) : ents (upM l s v) = match fnd s l 0 with
    | some (i, _) => (ents l).set i (.str s, v)
    | none => ents l ++ [(.str s, v)] := by
  unfold upM
  cases fnd s l 0 with
  | some q => simp [ents, List.map_set]
  | none => simp [ents]
section
variable {P : Program} {eqs : Eqs} {lk : Env} {H : Heap} {K : AV → Heap → Prop}
theorem look_at {t : TypeId} {x ix : Operand} {ok : Bool} {id : Nat} {s : List UInt8} {l : Ents} {kt et : TypeId} {z : A1} (hx : rho lk x = some (at' (.map (some id)))) (hi : rho lk ix = some (at' (.str s))) (hu : P.underlying t = some (.map kt et)) (hk : keyD (P.underlying kt) (.str s) = true) (hz : zeroOf P et = some z) (hg : H.get id = some (.map (ents l))) :
    opA (.lookup t x ix ok) P eqs lk H = some (.val (if ok then .tup [(lkM l s).getD z, .at (.bool (lkM l s).isSome)] else .one ((lkM l s).getD z)) H) := by
  show op_lookup t x ix ok P eqs lk H = _
  unfold op_lookup
  rw [hx, hi]
  simp only []
  have e : lookupA P H t (at' (.map (some id))) (at' (.str s)) ok = some (if ok then .tup [(lkM l s).getD z, .at (.bool (lkM l s).isSome)] else .one ((lkM l s).getD z)) := by
    unfold lookupA
    simp only [hu, hk, cond_true, hg, findA_ents]
    unfold lkM
    cases fnd s l 0 with
    | some q => rfl
    | none => simp only [hz]; rfl
  rw [e]
theorem oLook {t : TypeId} {x ix : Operand} {id : Nat} {s : List UInt8} {l : Ents} {kt et : TypeId} {z : A1} (hx : rho lk x = some (at' (.map (some id)))) (hi : rho lk ix = some (at' (.str s))) (hu : P.underlying t = some (.map kt et)) (hk : keyD (P.underlying kt) (.str s) = true) (hz : zeroOf P et = some z) (hg : H.get id = some (.map (ents l)))
    (k : K (.one ((lkM l s).getD z)) H) : opP P eqs (.lookup t x ix false) lk H K := oV (look_at hx hi hu hk hz hg) k
theorem oLook2 {t : TypeId} {x ix : Operand} {id : Nat} {s : List UInt8} {l : Ents} {kt et : TypeId} {z : A1} (hx : rho lk x = some (at' (.map (some id)))) (hi : rho lk ix = some (at' (.str s))) (hu : P.underlying t = some (.map kt et)) (hk : keyD (P.underlying kt) (.str s) = true) (hz : zeroOf P et = some z) (hg : H.get id = some (.map (ents l)))
    (k : K (.tup [(lkM l s).getD z, .at (.bool (lkM l s).isSome)]) H) : opP P eqs (.lookup t x ix true) lk H K := oV (look_at hx hi hu hk hz hg) k
theorem oMapUp {t : TypeId} {m k x : Operand} {id : Nat} {s : List UInt8} {v : A1} {l : Ents} {kt et : TypeId} (hm : rho lk m = some (at' (.map (some id)))) (hk' : rho lk k = some (at' (.str s))) (hx : rho lk x = some (.one v)) (hu : P.underlying t = some (.map kt et)) (hkd : keyD (P.underlying kt) (.str s) = true) (hg : H.get id = some (.map (ents l)))
    (kk : K .undef (H.set id (.map (ents (upM l s v))))) : opP P eqs (.mapUpdate t m k x) lk H K := oV (v := .undef) (H' := H.set id (.map (ents (upM l s v)))) (by
  show op_mapUpdate t m k x P eqs lk H = _
  unfold op_mapUpdate
  rw [hm, hk', hx]
  simp only []
  have e : updateA P H t (at' (.map (some id))) (at' (.str s)) (.one v) = some (H.set id (.map (ents (upM l s v)))) := by
    unfold updateA
    simp only [hu, hkd, cond_true, hg, findA_ents, ents_up]
    cases fnd s l 0 with
    | some q => rfl
    | none => rfl
  rw [e]) kk
end
/-- A set of texts. -/
def SetE (l : Ents) : Prop := ∀ p ∈ l, p.2 = .at (.bool true)
theorem fnd_mem (s : List UInt8) : ∀ (l : Ents) (i j : Nat) (v : A1), fnd s l i = some (j, v) → (s, v) ∈ l
  | [], i, j, v, h => by cases h
  | p :: r, i, j, v, h => by
    simp only [fnd] at h
    split at h
    · rename_i hp; cases h; rw [← hp]; simp
    · exact List.mem_cons_of_mem _ (fnd_mem s r _ j v h)
theorem SetE.get {l : Ents} (h : SetE l) (s : List UInt8) : (lkM l s).getD (.at (.bool false)) = .at (.bool (lkM l s).isSome) := by
  unfold lkM
  cases hf : fnd s l 0 with
  | none => rfl
  | some q =>
    have := h _ (fnd_mem s l 0 q.1 q.2 hf)
    simpa using this
theorem SetE.up {l : Ents} (h : SetE l) (s : List UInt8) : SetE (upM l s (.at (.bool true))) := by
  unfold upM
  split
  · intro p hp
    rcases List.mem_or_eq_of_mem_set hp with h1 | h1
    · exact h p h1
    · rw [h1]
  · intro p hp
    rcases List.mem_append.1 hp with h1 | h1
    · exact h p h1
    · simp only [List.mem_singleton] at h1; rw [h1]
section
variable {P : Program} {eqs : Eqs} {lk : Env} {H : Heap} {K : AV → Heap → Prop}
theorem oLookB {t : TypeId} {x ix : Operand} {id : Nat} {s : List UInt8} {l : Ents} {kt et : TypeId} (hx : rho lk x = some (at' (.map (some id)))) (hi : rho lk ix = some (at' (.str s))) (hu : P.underlying t = some (.map kt et)) (hk : keyD (P.underlying kt) (.str s) = true) (hz : zeroOf P et = some (.at (.bool false))) (hg : H.get id = some (.map (ents l))) (hs : SetE l)
    (ht : (lkM l s).isSome = true → K (at' (.bool true)) H) (hf : (lkM l s).isSome = false → K (at' (.bool false)) H) : opP P eqs (.lookup t x ix false) lk H K := by
  refine oB (c := (lkM l s).isSome) ?_ ht hf
  rw [look_at hx hi hu hk hz hg, hs.get s]; rfl
end
theorem upM_isSome (l : Ents) (s : List UInt8) (v : A1) (t : List UInt8) : (lkM (upM l s v) t).isSome = (decide (t = s) || (lkM l t).isSome) := by
  rw [lk_up]
  by_cases h : t = s
  · simp [h]
  · simp [h]
/-- A row of rows of texts. -/
def LRw (H : Heap) (l : List (List UInt8)) (cs : List AT) : Prop := ∃ q, cs = [.slice q l.length] ∧ RowQ H 1 LT1 l q
theorem LRw.kp {H H' : Heap} (hk : Kp [] H H') (l : List (List UInt8)) (cs : List AT) (h : LRw H l cs) : LRw H' l cs := by
  obtain ⟨q, h1, h2⟩ := h
  exact ⟨q, h1, h2.imp hk fun _ _ _ h => h⟩
theorem Lay.flat {β : Type} {z : Nat} {R : β → List AT → Prop} {f : β → List AT} (hf : ∀ x, (f x).length = z) (hR : ∀ x, R x (f x)) : ∀ xs : List β, Lay z R xs (xs.flatMap f)
  | [] => rfl
  | x :: r => by
    rw [List.flatMap_cons]
    refine ⟨?_, ?_⟩
    · rw [List.take_append_of_le_length (by rw [hf]; omega), List.take_of_length_le (by rw [hf]; omega)]; exact hR x
    · rw [List.drop_append, List.drop_eq_nil_of_le (by rw [hf]; omega), hf, Nat.sub_self, List.drop_zero, List.nil_append]
      exact Lay.flat hf hR r
theorem RowR.q {β : Type} {H : Heap} {f : β → List AT} {z : Nat} {R : β → List AT → Prop} {xs : List β} {p : Option (Nat × Nat)} (h : RowR H f z xs p) (hf : ∀ x, (f x).length = z) (hR : ∀ x, R x (f x)) : RowQ H z R xs p :=
  ⟨h.1, fun id o hp => (h.2 id o hp).imp (fun x => x) fun ⟨T, k, cs, h1, h2, h3⟩ => ⟨T, k, cs, h1, h2, by rw [h3]; exact Lay.flat hf hR xs⟩⟩
def strC (s : List UInt8) : List AT := [.str s]
/-- A row of one, of two, of three. -/
theorem RowQ.one {β : Type} {H : Heap} {z : Nat} {R : β → List AT → Prop} {x : β} {id : Nat} {T : TypeId} {k : Nat} {c : List AT} (hg : H.get id = some (.cells T k c)) (hl : c.length = z) (h : R x c) : RowQ H z R [x] (some (id, 0)) :=
  ⟨fun h => (by cases h), fun id' o hp => .inr (by
    cases hp
    refine ⟨T, k, c, hg, by simp [hl], ?_⟩
    refine ⟨by rw [List.drop_zero, List.take_take, List.take_of_length_le (by simp [hl])]; exact h, ?_⟩
    show List.drop z (List.take ([x].length * z) (List.drop 0 c)) = []
    rw [List.drop_eq_nil_of_le (by simp; omega)])⟩
/-- Whether a text comes twice, those of seen counted. -/
def dup (seen : List (List UInt8)) : List (List UInt8) → Bool
  | [] => false
  | s :: r => decide (s ∈ seen) || dup (s :: seen) r
/-- What a map holds that was written in this order. -/
def mpL (l : List (List UInt8 × Nat)) (s : List UInt8) : Option Nat := (l.reverse.find? fun p => decide (p.1 = s)).map (·.2)
theorem mpL_snoc (l : List (List UInt8 × Nat)) (s t : List UInt8) (n : Nat) : mpL (l ++ [(s, n)]) t = if t = s then some n else mpL l t := by
  unfold mpL
  rw [List.reverse_append]
  simp only [List.reverse_cons, List.reverse_nil, List.nil_append, List.cons_append, List.find?_cons]
  by_cases h : t = s
  · subst h; simp
  · rw [decide_eq_false (fun e => h e.symm), if_neg h]
end Go.Ea
