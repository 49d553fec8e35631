/-
  THE ENGINE, part 15: '==' of plain structs; from a closed call to what a row asks. Over any program. Written in this session.
-/
import Derived.Test.YtceakkomleaibaaEc2
import Derived.Laws.StructEq
namespace Go.Ea

section
variable {P : Program}
def shT : Sh → Option TypeDesc → Bool
  | .int _, some (.int _) => true
  | .str, some .string => true
  | .bool, some .bool => true
  | _, _ => false
def fieldsOk (P : Program) : List Field → List Sh → Nat → Bool
  | [], [], _ => true
  | f :: fs, s :: r, i => Nat.beq f.offset i && !(f.name == "_") && shT s (P.underlying f.type) && (match sizeO P f.type with | some _ => true | none => false) && fieldsOk P fs r (i + 1)
  | _, _, _ => false
theorem eqA_run (d : Nat) {α : Al} {w : World} {t : TypeId} {a b : AT} {x y : Value} {s : Sh} {r : Bool} (ht : shT s (P.underlying t) = true) (ha : AR α a x) (hb : AR α b y) (h1 : shp a = s) (h2 : shp b = s) (h : eqA a b = some r) :
    (Op.equalIn (d + 1) t x y).run P w = .ok r w := by
  cases a <;> cases b <;> simp only [eqA, reduceCtorEq] at h
  · simp only [shp] at h1; subst h1
    cases hu : P.underlying t with
    | none => rw [hu] at ht; cases ht
    | some D =>
      rw [hu] at ht
      cases D <;> first | (cases ht; done) | skip
      simp only [AR] at ha hb
      subst ha hb
      cases h
      simp [Op.equalIn, run_underlying hu]
  · simp only [shp] at h1 h2; subst h1
    cases hu : P.underlying t with
    | none => rw [hu] at ht; cases ht
    | some D =>
      rw [hu] at ht
      cases D <;> first | (cases ht; done) | skip
      simp only [AR] at ha hb
      subst ha hb
      cases h2
      cases h
      simp [Op.equalIn, run_underlying hu]
  · simp only [shp] at h1; subst h1
    cases hu : P.underlying t with
    | none => rw [hu] at ht; cases ht
    | some D =>
      rw [hu] at ht
      cases D <;> first | (cases ht; done) | skip
      obtain ⟨sx, rfl, hx⟩ := ha
      obtain ⟨sy, rfl, hy⟩ := hb
      cases h
      rw [eqS_eq, ← hx, ← hy]
      have := ba_beq sx sy
      simp [Op.equalIn, run_underlying hu, this]
theorem eqF_run (d : Nat) {α : Al} {w : World} {x y : Array Value} {xs ys : List AT} (hx : F2 (AR α) xs x.toList) (hy : F2 (AR α) ys y.toList) : ∀ {fs : List Field} {s : List Sh} {i : Nat} {r : Bool}, fieldsOk P fs s i = true →
    (xs.drop i).map shp = s → (ys.drop i).map shp = s → eqL (xs.drop i) (ys.drop i) = some r → (Op.eqFields (d + 1) x y fs).run P w = .ok r w
  | [], [], i, r, _, h1, h2, h => by
    rw [List.map_eq_nil_iff] at h1 h2
    rw [h1, h2] at h
    cases h
    simp [Op.eqFields]
  | f :: fs, s :: q, i, r, hf, h1, h2, h => by
    simp only [fieldsOk, Bool.and_eq_true, Nat.beq_eq, Bool.not_eq_true'] at hf
    obtain ⟨⟨⟨⟨f1, f2⟩, f3⟩, f4⟩, f5⟩ := hf
    cases hxd : xs.drop i with
    | nil => rw [hxd] at h1; cases h1
    | cons a xr =>
      cases hyd : ys.drop i with
      | nil => rw [hyd] at h2; cases h2
      | cons b yr =>
        rw [hxd, hyd] at h
        rw [hxd] at h1
        rw [hyd] at h2
        simp only [List.map_cons, List.cons.injEq] at h1 h2
        have ex : xs[i]? = some a := by
          have := congrArg (fun l => l[0]?) hxd
          simpa using this
        have ey : ys[i]? = some b := by
          have := congrArg (fun l => l[0]?) hyd
          simpa using this
        have xr' : xs.drop (i + 1) = xr := by rw [← List.tail_drop, hxd]; rfl
        have yr' : ys.drop (i + 1) = yr := by rw [← List.tail_drop, hyd]; rfl
        simp only [eqL] at h
        split at h
        · rename_i r1 r2 e1 e2
          cases h
          obtain ⟨D, hD⟩ : ∃ D, P.underlying f.type = some D := by
            cases hu : P.underlying f.type with
            | none => rw [hu] at f3; cases s <;> cases f3
            | some D => exact ⟨D, rfl⟩
          obtain ⟨n, hn⟩ : ∃ n, sizeO P f.type = some n := by
            cases hs : sizeO P f.type with
            | none => rw [hs] at f4; cases f4
            | some n => exact ⟨n, rfl⟩
          have hagg : isAggD D = false := by
            rw [hD] at f3
            cases D <;> cases s <;> first | rfl | (cases f3; done)
          have pa : ∀ {l : List AT} {q : AT}, l[i]? = some q → partA P f.type l i = some (.at q) := by
            intro l q hl
            unfold partA
            rw [hD, hn]
            simp only [hagg, cond_false, hl]
          obtain ⟨u, u1, u2⟩ := partA_part (w := w) (pa ex) hx
          obtain ⟨v, v1, v2⟩ := partA_part (w := w) (pa ey) hy
          have rest := eqF_run (w := w) d hx hy (i := i + 1) (r := r2) f5 (by rw [xr']; exact h1.2) (by rw [yr']; exact h2.2) (by rw [xr', yr']; exact e2)
          have hn' : f.name ≠ "_" := by simpa using f2
          have heq := eqA_run (P := P) d (w := w) f3 u2 v2 h1.1 h2.1 e1
          rw [← f1] at u1 v1
          rw [Op.eqFields]
          simp only [if_pos hn', Sem.run_bind, u1, v1, heq, Result.andThen_ok]
          cases r1
          · simp
          · simpa using rest
        · cases h
  | [], _ :: _, _, _, hf, _, _, _ => by cases hf
  | _ :: _, [], _, _, hf, _, _, _ => by cases hf
theorem eqOk_of {t : TypeId} {fs : Array Field} {s : List Sh} (hg : P.eqGuardType P.depth t = false) (hu : P.underlying t = some (.struct fs)) (hp : P.stoodInHeld t = false) (hf : fieldsOk P fs.toList s 0 = true) : EqOk P t s := by
  refine ⟨hg, fun α w xs ys x y b hx hy h1 h2 h => ?_⟩
  have hfs : P.fieldsOf t = fs := by simp [Program.fieldsOf, hu]
  show (Op.equalIn (9999 + 1) t (.agg x) (.agg y)).run P w = .ok b w
  rw [run_equalIn_struct (P := P) w 9999 t x y (by rw [hfs]; exact hu) hp, hfs]
  exact eqF_run 9998 hx hy hf (by simpa using h1) (by simpa using h2) (by simpa using h)
def eqsOkB (P : Program) : Eqs → Bool
  | [] => true
  | (t, s) :: r => !P.eqGuardType P.depth t && !P.stoodInHeld t && (match P.underlying t with
    | some (.struct fs) => fieldsOk P fs.toList s 0
    | _ => false) && eqsOkB P r
theorem eqsOk_of : ∀ {eqs : Eqs}, eqsOkB P eqs = true → EqsOk P eqs
  | [], _, t, s, h => by cases h
  | (u, q) :: r, hb, t, s, h => by
    simp only [eqsOkB, Bool.and_eq_true, Bool.not_eq_true'] at hb
    obtain ⟨⟨⟨h1, h2⟩, h3⟩, h4⟩ := hb
    simp only [shOf] at h
    cases e : Nat.beq u t with
    | false => rw [e] at h; exact eqsOk_of h4 t s h
    | true =>
      rw [e] at h
      cases h
      have e := Nat.eq_of_beq_eq_true e
      subst e
      split at h3
      · rename_i fs hu
        exact eqOk_of h1 hu h2 h3
      · cases h3
end

/-! ### closed calls -/
def okA : Option (AV × Heap) → Bool
  | some (.one (.at (.bool true)), _) => true
  | _ => false
theorem okA_spec {x : Option (AV × Heap)} (h : okA x = true) : ∃ H', x = some (at' (.bool true), H') := by
  unfold okA at h
  split at h
  · exact ⟨_, rfl⟩
  · cases h
theorem R.start (P : Program) (w : World) : R P w.heap.size Heap.empty (fun _ => none) w := by
  refine ⟨Nat.le_refl _, fun _ _ => rfl, fun i o h => ?_, fun i j oi oj Li Lj _ h => ?_⟩
  · rw [Heap.get_ge _ (Nat.zero_le i)] at h; cases h
  · rw [Heap.get_ge _ (Nat.zero_le i)] at h; cases h
theorem Ext.grown {H H' : Heap} {α α' : Al} {w w' : World} (h : Ext H α w H' α' w') (hr : ∀ k, ¬ rwset H α k) : RowKit.Grown w w' := by
  refine ⟨⟨h.os, h.output, fun i hi => ?_⟩, h.fz, h.size⟩
  rw [h.blk i hi (hr i)]
  cases w.heap[i]? with
  | none => rfl
  | some o => cases o with
    | cells c t f => exact ⟨rfl, rfl, rfl, fun _ _ => rfl⟩
    | map es k => exact .inr ⟨rfl, rfl⟩
    | _ => rfl
theorem noRw_empty (α : Al) (k : Nat) : ¬ rwset Heap.empty α k := by
  rintro ⟨i, o, L, h, _⟩
  rw [Heap.get_ge _ (Nat.zero_le i)] at h; cases h
/-- A function without arguments that is true. -/
theorem closed_true {P : Program} {f : FuncId} {H' : Heap} (h : Sim P f [] Heap.empty fun u G => u = at' (.bool true) ∧ G = H') (w : World) : Calls P f #[] w fun e w' => e = .returned (.bool true) ∧ RowKit.Grown w w' := by
  refine (h w.heap.size (fun _ => none) w #[] (R.start P w) .nil).mono fun e w' ⟨v, v', H2, α', h1, ⟨h2, _⟩, h3, _, h5⟩ => ?_
  subst h2
  simp only [VR, V1, AR] at h3
  subst h3
  exact ⟨h1, h5.grown (noRw_empty _)⟩
end Go.Ea
