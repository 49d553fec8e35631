/-
  VALID PROGRAMS in plain Lean: what is known of a program that the checker lets in. Written in this session.
-/
import Derived.Test.YtnhobbjbgljpnaaIf
import Derived.Test.YtnhobbjbgljpnaaKt
namespace Go.Proofs.Ytnhobbjbgljpnaa
open Go.Ea
set_option maxRecDepth 100000
set_option linter.unusedVariables false
set_option linter.unusedSimpArgs false
/-- The functions' numbers, by name. -/
def idxL (l : List Fn1) : List (List UInt8 × Nat) := l.zipIdx.map fun q => (q.1.name, q.2)
def fidx (p : Pr) : List UInt8 → Option Nat := mpL (idxL p.funcs)
def fnOf (p : Pr) (s : List UInt8) : Option Fn1 := (fidx p s).bind fun i => p.funcs[i]?
theorem idx_snoc {l : List Fn1} {j : Nat} {f : Fn1} (hf : l[j]? = some f) : idxL (l.take (j + 1)) = idxL (l.take j) ++ [(f.name, j)] := by
  have hj := (List.getElem?_eq_some_iff.1 hf).1
  unfold idxL
  rw [List.take_add_one, hf, List.zipIdx_append, List.map_append]
  simp only [Option.toList, List.zipIdx_cons, List.zipIdx_nil, List.map_cons, List.map_nil, List.length_take, Nat.min_eq_left (Nat.le_of_lt hj), Nat.zero_add]
theorem idx_arity (p : Pr) (s : List UInt8) : ∀ j, j ≤ p.funcs.length → (mpL ((p.funcs.take j).map fun f => (f.name, f.params.length)) s = none ∧ mpL (idxL (p.funcs.take j)) s = none) ∨
    ∃ i g, p.funcs[i]? = some g ∧ g.name = s ∧ i < j ∧ mpL ((p.funcs.take j).map fun f => (f.name, f.params.length)) s = some g.params.length ∧ mpL (idxL (p.funcs.take j)) s = some i
  | 0, _ => .inl ⟨rfl, rfl⟩
  | j + 1, hj => by
    obtain ⟨f, hf⟩ : ∃ f, p.funcs[j]? = some f := ⟨_, List.getElem?_eq_getElem (by omega)⟩
    rw [idx_snoc hf, List.take_add_one, hf, List.map_append]
    simp only [Option.toList, List.map_cons, List.map_nil, mpL_snoc]
    by_cases e : s = f.name
    · rw [if_pos e, if_pos e]
      exact .inr ⟨j, f, hf, e.symm, by omega, rfl, rfl⟩
    · rw [if_neg e, if_neg e]
      rcases idx_arity p s j (by omega) with h | ⟨i, g, h1, h2, h3, h4, h5⟩
      · exact .inl h
      · exact .inr ⟨i, g, h1, h2, by omega, h4, h5⟩
theorem fn_arity {p : Pr} {s : List UInt8} {n : Nat} (h : arity p s = some n) : ∃ i g, p.funcs[i]? = some g ∧ g.name = s ∧ fidx p s = some i ∧ fnOf p s = some g ∧ g.params.length = n := by
  rcases idx_arity p s p.funcs.length (Nat.le_refl _) with ⟨h1, _⟩ | ⟨i, g, h1, h2, h3, h4, h5⟩
  · rw [List.take_length] at h1
    rw [arity, h1] at h; cases h
  · rw [List.take_length] at h4 h5
    rw [arity, h4] at h; cases h
    exact ⟨i, g, h1, h2, h5, by unfold fnOf fidx; rw [h5]; exact h1, rfl⟩
theorem fidx_spec {p : Pr} {s : List UInt8} {i : Nat} (h : fidx p s = some i) : ∃ g, p.funcs[i]? = some g ∧ g.name = s ∧ fnOf p s = some g := by
  rcases idx_arity p s p.funcs.length (Nat.le_refl _) with ⟨_, h1⟩ | ⟨i', g, h1, h2, h3, h4, h5⟩
  · rw [List.take_length] at h1
    rw [fidx, h1] at h; cases h
  · rw [List.take_length] at h4 h5
    rw [fidx, h5] at h; cases h
    exact ⟨g, h1, h2, by unfold fnOf fidx; rw [h5]; exact h1⟩
theorem fnOf_idx {p : Pr} {s : List UInt8} {g : Fn1} (h : fnOf p s = some g) : p.funcs[(fidx p s).getD 0]? = some g := by
  unfold fnOf at h
  cases hi : fidx p s with
  | none => rw [hi] at h; cases h
  | some i => rw [hi] at h; exact h

/-! ### the limits -/
theorem stepL_len : ∀ (l : List (Stm × Nat)) (s : Nat × Nat), (runL stepL s l).1 = true → l = [] ∨ s.1 + l.length ≤ 200
  | [], s, _ => .inl rfl
  | a :: r, s, h => by
    simp only [runL] at h
    split at h
    · rename_i h1
      simp only [stepL, Bool.and_eq_true, decide_eq_true_eq] at h1
      rcases stepL_len r _ h with h2 | h2
      · subst h2; right; simp only [List.length_cons, List.length_nil]; omega
      · right; simp only [stepL, List.length_cons] at h2 ⊢; omega
    · cases h
theorem limF_spec {f : Fn1} (h : limF f = true) : f.params.length ≤ 6 ∧ f.locals.length ≤ 8 ∧ nStl f.body ≤ 200 := by
  unfold limF at h
  simp only [Bool.and_eq_true, decide_eq_true_eq] at h
  obtain ⟨h1, h2, h3, _⟩ := h
  refine ⟨by omega, by omega, ?_⟩
  have := (preSl_len (nStl f.body)).2 f.body (Nat.le_refl _) 0
  rcases stepL_len _ _ h3 with e | e
  · rw [e] at this; simp at this; omega
  · simp only [] at e; omega
/-! ### calls -/
theorem stepR_zero {V A : List UInt8 → Bool} {F : List UInt8 → Option Nat} {w : Int} {a : Stm × Nat} (h1 : (stepR V A F w a).1 = true) (h : (stepR V A F w a).2 = 0) : w = 0 ∧ (a.1.kind = 6 → ∃ n, F a.1.to = some n ∧ n = a.1.args.length) := by
  obtain ⟨x, d⟩ := a
  by_cases k1 : x.kind = 1
  · rw [stepR_1 k1] at h; exact ⟨h, fun k => by simp only [] at k; omega⟩
  by_cases k2 : x.kind = 2
  · rw [stepR_2 k2] at h; exact ⟨h, fun k => by simp only [] at k; omega⟩
  by_cases k6 : x.kind = 6
  · cases hF : F x.to with
    | none => rw [stepR_6n k6 hF] at h1; cases h1
    | some n =>
      rw [stepR_6s k6 hF] at h
      simp only [] at h
      split at h
      · cases h
      · rename_i hn
        exact ⟨h, fun _ => ⟨n, rfl, by show n = x.args.length; omega⟩⟩
  · rw [stepR_0 k1 k2 k6] at h; exact ⟨h, fun k => absurd k k6⟩
theorem runR_zero {V A : List UInt8 → Bool} {F : List UInt8 → Option Nat} : ∀ (l : List (Stm × Nat)) (w : Int), (runL (stepR V A F) w l).1 = true → (runL (stepR V A F) w l).2 = 0 → w = 0 ∧ ∀ a ∈ l, a.1.kind = 6 → ∃ n, F a.1.to = some n ∧ n = a.1.args.length
  | [], w, _, h => ⟨h, fun _ h => by cases h⟩
  | a :: r, w, h1, h2 => by
    simp only [runL] at h1 h2
    split at h1
    · rename_i h3
      rw [if_pos h3] at h2
      obtain ⟨q1, q2⟩ := runR_zero r _ h1 h2
      obtain ⟨q3, q4⟩ := stepR_zero h3 q1
      refine ⟨q3, fun b hb => ?_⟩
      rcases List.mem_cons.1 hb with rfl | hb
      · exact q4
      · exact q2 b hb
    · cases h1
theorem resF_zero {p : Pr} {f : Fn1} {w : Int} (h1 : (resF p w f).1 = true) (h2 : (resF p w f).2 = 0) : w = 0 ∧ ∀ a ∈ preSl 0 f.body, a.1.kind = 6 → ∃ n, arity p a.1.to = some n ∧ n = a.1.args.length := by
  unfold resF at h1 h2
  split at h1
  · rename_i h; rw [if_pos h] at h2; exact runR_zero _ _ h1 h2
  · cases h1
theorem runF_zero {p : Pr} : ∀ (l : List Fn1) (w : Int), (runL (resF p) w l).1 = true → (runL (resF p) w l).2 = 0 → w = 0 ∧ ∀ f ∈ l, ∀ a ∈ preSl 0 f.body, a.1.kind = 6 → ∃ n, arity p a.1.to = some n ∧ n = a.1.args.length
  | [], w, _, h => ⟨h, fun _ h => by cases h⟩
  | f :: r, w, h1, h2 => by
    simp only [runL] at h1 h2
    split at h1
    · rename_i h3
      rw [if_pos h3] at h2
      obtain ⟨q1, q2⟩ := runF_zero r _ h1 h2
      obtain ⟨q3, q4⟩ := resF_zero h3 q1
      refine ⟨q3, fun b hb => ?_⟩
      rcases List.mem_cons.1 hb with rfl | hb
      · exact q4
      · exact q2 b hb
    · cases h1
/-! ### names -/
theorem dup_nodup : ∀ (l seen : List (List UInt8)), dup seen l = false → l.Nodup ∧ ∀ s ∈ l, s ∉ seen
  | [], seen, _ => ⟨List.nodup_nil, fun _ h => by cases h⟩
  | s :: r, seen, h => by
    rw [dup_cons, Bool.or_eq_false_iff] at h
    obtain ⟨q1, q2⟩ := dup_nodup r _ h.2
    simp only [decide_eq_false_iff_not] at h
    refine ⟨List.nodup_cons.2 ⟨fun hm => q2 s hm (by simp), q1⟩, fun t ht => ?_⟩
    rcases List.mem_cons.1 ht with rfl | ht
    · exact h.1
    · exact fun hm => q2 t ht (by simp [hm])
theorem wfX_WX {e : Exp} (h : wfX e = true) : WX e := ⟨0, fun a ha => by unfold wfX at h; exact List.all_eq_true.1 h a ha⟩
/-- What the checker lets in. -/
structure Valid (p : Pr) : Prop where
  na : p.arrays.length ≤ 4
  nf : p.funcs.length ≤ 8
  al : ∀ a ∈ p.arrays, 1 ≤ a.len ∧ a.len ≤ 16
  ok : ∀ g ∈ p.funcs, (∀ b ∈ g.body, WS (fnOf p) b) ∧ WX g.value ∧ g.params.Nodup ∧ nStl g.body ≤ 200 ∧ g.params.length ≤ 6
  an : (p.arrays.map Ar.name).Nodup
  fn : (p.funcs.map Fn1.name).Nodup
theorem valid_of {p : Pr} (h : chkS p = 0) : Valid p := by
  unfold chkS at h
  split at h
  · cases h
  rename_i hl
  split at h
  · cases h
  rename_i hw
  split at h
  · cases h
  rename_i hd
  have hl : limP p = true := by cases e : limP p with
    | true => rfl
    | false => exact absurd e hl
  have hw : wfPr p = true := by cases e : wfPr p with
    | true => rfl
    | false => exact absurd e hw
  have hd : dupP p = false := by cases e : dupP p with
    | false => rfl
    | true => exact absurd e hd
  have hle := limP_le hl
  unfold limP at hl
  unfold wfPr at hw
  unfold dupP at hd
  unfold resP at h
  simp only [Bool.and_eq_true, List.all_eq_true] at hl hw
  obtain ⟨_, _, hla, hlf⟩ := hl
  obtain ⟨hwa, hwf⟩ := hw
  simp only [Bool.or_eq_false_iff, Bool.not_eq_false', List.all_eq_true] at hd
  obtain ⟨hd1, hd2, hd3⟩ := hd
  split at h
  · rename_i hr
    obtain ⟨_, hcall⟩ := runF_zero p.funcs 0 hr h
    refine ⟨hle.1, hle.2, fun a ha => ?_, fun g hg => ?_, ?_, ?_⟩
    · have := hla a ha
      simp only [limA, Bool.and_eq_true, Bool.not_eq_true', decide_eq_false_iff_not] at this
      omega
    · obtain ⟨l1, l2, l3⟩ := limF_spec (hlf g hg)
      have hwg := hwf g hg
      unfold wfF at hwg
      simp only [Bool.and_eq_true, List.all_eq_true] at hwg
      obtain ⟨w1, w2, w3, w4, w5⟩ := hwg
      refine ⟨fun b hb => ⟨0, fun a ha => ?_⟩, wfX_WX w4, ?_, l3, l1⟩
      · have hin : a ∈ preSl 0 g.body := preSl_in ha hb
        have hs : wfS1 a.1 = true := by unfold wfSl at w5; exact List.all_eq_true.1 w5 a hin
        unfold wfS1 wfP at hs
        simp only [Bool.and_eq_true, List.all_eq_true, Bool.not_eq_true', decide_eq_false_iff_not] at hs
        obtain ⟨⟨s1, s2, s3, s4, s5, s6, s7, _⟩, s8⟩ := hs
        refine ⟨fun hk => ?_, fun hk => ?_, fun hk => ?_, fun hk => ⟨by omega, by omega⟩⟩
        · have : fl a.1.kind 4 = true := by
            unfold fl
            rcases hk with h | h | h | h | h <;> rw [h] <;> decide
          rw [this] at s5
          exact wfX_WX s5
        · have : fl a.1.kind 3 = true := by unfold fl; rw [hk]; decide
          rw [this] at s4
          exact wfX_WX s4
        · obtain ⟨n, h1, h2⟩ := hcall g hg a hin hk
          obtain ⟨i, g2, q1, q2, q3, q4, q5⟩ := fn_arity h1
          have hm := List.mem_of_getElem? q1
          have := (limF_spec (hlf g2 hm)).1
          exact ⟨fun e he => wfX_WX (s8 e he), by omega, g2, q4, by omega⟩
      · have hn := hd3 g hg
        unfold nd at hn
        simp only [Bool.not_eq_true'] at hn
        have := (dup_nodup _ _ hn).1
        simp only [List.flatten_cons, List.flatten_nil, List.append_nil] at this
        exact (List.nodup_append.1 (List.nodup_append.1 this).2.1).1
    · have := (dup_nodup _ _ hd1).1
      simpa using this
    · have := (dup_nodup _ _ hd2).1
      simpa using this
  · cases h
/-! ### what Run comes to -/
/-- An outcome. -/
structure OC where
  kind : Int
  code : Int
  out : List Int
  value : Int
  deriving DecidableEq
def OC.zero : OC := ⟨0, 0, [], 0⟩
/-- The arrays, zeroed. -/
def arr0 (l : List Ar) : Arrs := l.foldl (fun A a => upd1 A a.name (List.replicate a.len.toNat 0)) fun _ => []
theorem arr0_snoc {l : List Ar} {j : Nat} {a : Ar} (h : l[j]? = some a) : arr0 (l.take (j + 1)) = upd1 (arr0 (l.take j)) a.name (List.replicate a.len.toNat 0) := by
  unfold arr0
  rw [List.take_add_one, h, List.foldl_append]
  rfl
/-- The state in which the function g ends, and its value. -/
def endS (p : Pr) (g : Fn1) (args : List Int) (fuel : Nat) : St := exL (fnOf p) g.body ⟨⟨fuel, 0, 0⟩, arr0 p.arrays, bind g.params args, []⟩
def endV (p : Pr) (g : Fn1) (args : List Int) (fuel : Nat) : Ctl × Int := evX (endS p g args fuel).A (endS p g args fuel).f g.value (endS p g args fuel).c
def ocS (p : Pr) (g : Fn1) (args : List Int) (fuel : Nat) : OC :=
  if (endV p g args fuel).1.en = 2 then ⟨2, (endV p g args fuel).1.code, (endS p g args fuel).out, 0⟩ else if (endV p g args fuel).1.en = 3 then ⟨3, 0, (endS p g args fuel).out, 0⟩ else ⟨1, 0, (endS p g args fuel).out, (endV p g args fuel).2⟩
noncomputable def runS (p : Pr) (nm : List UInt8) (args : List Int) (fuel : Int) : OC :=
  if chkS p ≠ 0 ∨ fuel < 0 ∨ fuel > 1000 then OC.zero else match fnOf p nm with
    | none => OC.zero
    | some g => if g.params.length ≠ args.length then OC.zero else ocS p g args fuel.toNat
end Go.Proofs.Ytnhobbjbgljpnaa
