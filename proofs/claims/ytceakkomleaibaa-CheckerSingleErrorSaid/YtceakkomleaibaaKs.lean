/-
  PLAIN LAWS: a program that was read is valid; what Check answers of it when one part is changed. Written in this session.
-/
import Derived.Test.YtceakkomleaibaaKc
namespace Go.Proofs.Ytceakkomleaibaa
open Go.Ea
set_option maxRecDepth 100000
set_option linter.unusedVariables false
set_option linter.unusedSimpArgs false
theorem runL_const {A S : Type} {step : S → A → Bool × S} {s : S} : ∀ {l : List A}, (∀ a ∈ l, step s a = (true, s)) → runL step s l = (true, s)
  | [], _ => rfl
  | a :: r, h => by
    simp only [runL, h a (by simp), if_true]
    exact runL_const fun b hb => h b (by simp [hb])
theorem preEl_mem : ∀ {l : List Exp} {d : Nat} {a : Exp × Nat}, a ∈ preEl d l → ∃ e ∈ l, a ∈ preE d e
  | [], d, a, h => by simp [preEl] at h
  | e :: r, d, a, h => by
    simp only [preEl, List.mem_append] at h
    rcases h with h | h
    · exact ⟨e, by simp, h⟩
    · obtain ⟨e', h1, h2⟩ := preEl_mem h
      exact ⟨e', by simp [h1], h2⟩
theorem preSl_mem : ∀ {l : List Stm} {d : Nat} {a : Stm × Nat}, a ∈ preSl d l → ∃ e ∈ l, a ∈ preS d e
  | [], d, a, h => by simp [preSl] at h
  | e :: r, d, a, h => by
    simp only [preSl, List.mem_append] at h
    rcases h with h | h
    · exact ⟨e, by simp, h⟩
    · obtain ⟨e', h1, h2⟩ := preSl_mem h
      exact ⟨e', by simp [h1], h2⟩
theorem vName_nm (f : Nat) : ∀ s ∈ nmL f, vName s = true := by
  unfold nmL
  split <;> decide +kernel
theorem vName_ab : vName [97] = true ∧ vName [98] = true ∧ vName [102] = true ∧ vName [103] = true := by decide +kernel
/-- What is said of a node. -/
def NX (V A : List UInt8 → Bool) (m : Nat) (a : Exp × Nat) : Prop := a.2 ≤ m ∧ wfX1 a.1 = true ∧ okX V A a.1 = true
theorem NX.le {V A : List UInt8 → Bool} {m n : Nat} {a : Exp × Nat} (h : NX V A m a) (hm : m ≤ n) : NX V A n a := ⟨by have := h.1; omega, h.2⟩
section
variable {nm : List (List UInt8)} {V A : List UInt8 → Bool}
theorem GX.all (hV : ∀ s ∈ nm, V s = true) (hv : ∀ s ∈ nm, vName s = true) (hA : A [97] = true ∧ A [98] = true) {k : Nat} {e : Exp} (h : GX nm k e) : ∀ d, ∀ a ∈ preE d e, NX V A (d + k) a := by
  induction h with
  | @var k s h =>
    intro d a ha
    simp only [preE, preEl, List.mem_cons, List.not_mem_nil, or_false] at ha
    subst ha
    exact ⟨by simp, by simp [wfX1, vX, Exp.kind, Exp.n, Exp.op, Exp.name, Exp.kids, hv s h], by simp [okX, Exp.kind, Exp.name, hV s h]⟩
  | num =>
    intro d a ha
    simp only [preE, preEl, List.mem_cons, List.not_mem_nil, or_false] at ha
    subst ha
    exact ⟨by simp, by simp [wfX1, Exp.kind, Exp.n, Exp.op, Exp.name, Exp.kids], by simp [okX, Exp.kind, Exp.name]⟩
  | @idx k s e h _ ih =>
    intro d a ha
    simp only [preE, preEl, List.append_nil, List.mem_cons] at ha
    rcases ha with rfl | ha
    · have h1 : vName s = true ∧ A s = true := by rcases h with rfl | rfl; exact ⟨vName_ab.1, hA.1⟩; exact ⟨vName_ab.2.1, hA.2⟩
      exact ⟨by simp, by simp [wfX1, vX, Exp.kind, Exp.n, Exp.op, Exp.name, Exp.kids, h1.1], by simp [okX, Exp.kind, Exp.name, h1.2]⟩
    · exact (ih (d + 1) a ha).le (by omega)
  | cond _ _ _ ih1 ih2 ih3 =>
    intro d a ha
    simp only [preE, preEl, List.append_nil, List.mem_cons, List.mem_append] at ha
    rcases ha with rfl | ha | ha | ha
    · exact ⟨by simp, by simp [wfX1, Exp.kind, Exp.n, Exp.op, Exp.name, Exp.kids], by simp [okX, Exp.kind, Exp.name]⟩
    · exact (ih1 (d + 1) a ha).le (by omega)
    · exact (ih2 (d + 1) a ha).le (by omega)
    · exact (ih3 (d + 1) a ha).le (by omega)
  | un h _ ih =>
    intro d a ha
    simp only [preE, preEl, List.append_nil, List.mem_cons] at ha
    rcases ha with rfl | ha
    · exact ⟨by simp, by simp [wfX1, Exp.kind, Exp.n, Exp.op, Exp.name, Exp.kids, vOp, h], by simp [okX, Exp.kind, Exp.name]⟩
    · exact (ih (d + 1) a ha).le (by omega)
  | @bin k o x y h _ _ ih1 ih2 =>
    intro d a ha
    simp only [preE, preEl, List.append_nil, List.mem_cons, List.mem_append] at ha
    rcases ha with rfl | ha | ha
    · refine ⟨by simp, ?_, by simp [okX, Exp.kind, Exp.name]⟩
      have h1 : ¬ (o = 20 ∨ o = 21) := by omega
      simp [wfX1, Exp.kind, Exp.n, Exp.op, Exp.name, Exp.kids, vOp, h1, h.1, h.2]
    · exact (ih1 (d + 1) a ha).le (by omega)
    · exact (ih2 (d + 1) a ha).le (by omega)

/-- The trees of a statement, for those who walk them. -/
theorem exprs_ok {a : Stm × Nat} (h : ∀ x ∈ preE 0 a.1.sub ++ (preE 0 a.1.value ++ preEl 0 a.1.args), x.2 ≤ 20 ∧ okX V A x.1 = true) : stepX stepD () a = (true, ()) ∧ stepX (stepV V A) () a = (true, ()) :=
  ⟨runL_const fun x hx => by have := (h x hx).1; simp [stepD, this], runL_const fun x hx => by have := (h x hx).2; simp [stepV, this]⟩
theorem zero_ok : ∀ x ∈ preE 0 Exp.zero, x.2 ≤ 20 ∧ okX V A x.1 = true := by
  intro x hx
  simp only [Exp.zero, preE, preEl, List.mem_cons, List.not_mem_nil, or_false] at hx
  subst hx
  exact ⟨by simp, by simp [okX, Exp.kind]⟩
theorem GX.ok (hV : ∀ s ∈ nm, V s = true) (hv : ∀ s ∈ nm, vName s = true) (hA : A [97] = true ∧ A [98] = true) {k : Nat} {e : Exp} (h : GX nm k e) (hk : k ≤ 4) : ∀ x ∈ preE 0 e, x.2 ≤ 20 ∧ okX V A x.1 = true := fun x hx => by
  have := h.all hV hv hA 0 x hx
  exact ⟨by have := this.1; omega, this.2.2⟩
theorem GX.wf (hv : ∀ s ∈ nm, vName s = true) {k : Nat} {e : Exp} (h : GX nm k e) : wfX e = true := by
  unfold wfX
  rw [List.all_eq_true]
  intro x hx
  exact (h.all (V := fun _ => true) (A := fun _ => true) (fun _ _ => rfl) hv ⟨rfl, rfl⟩ 0 x hx).2.1
/-- What is said of a statement that was read. -/
def NS (V A : List UInt8 → Bool) (F : List UInt8 → Option Nat) (m : Nat) (a : Stm × Nat) : Prop :=
  a.2 ≤ m ∧ wfS1 a.1 = true ∧ stepX stepD () a = (true, ()) ∧ stepX (stepV V A) () a = (true, ()) ∧ ∀ w, stepR V A F w a = (true, w)
theorem NS.le {V A : List UInt8 → Bool} {F : List UInt8 → Option Nat} {m n : Nat} {a : Stm × Nat} (h : NS V A F m a) (hm : m ≤ n) : NS V A F n a := ⟨by have := h.1; omega, h.2⟩
variable {F : List UInt8 → Option Nat}
theorem GS.all (hV : ∀ s ∈ nm, V s = true) (hv : ∀ s ∈ nm, vName s = true) (hA : A [97] = true ∧ A [98] = true) (hF : F [102] = some 2 ∧ F [103] = some 1) {k : Nat} {s : Stm} (h : GS nm k s) : ∀ d, ∀ a ∈ preS d s, NS V A F (d + k) a := by
  have app : ∀ {x y : List (Exp × Nat)}, (∀ a ∈ x, a.2 ≤ 20 ∧ okX V A a.1 = true) → (∀ a ∈ y, a.2 ≤ 20 ∧ okX V A a.1 = true) → ∀ a ∈ x ++ y, a.2 ≤ 20 ∧ okX V A a.1 = true := fun h1 h2 a ha => (List.mem_append.1 ha).elim (h1 a) (h2 a)
  have nl : ∀ a ∈ preEl 0 [], a.2 ≤ 20 ∧ okX V A a.1 = true := fun a ha => by simp [preEl] at ha
  induction h with
  | @assign k s v h hg =>
    intro d a ha
    simp only [preS, preSl, List.append_nil, List.mem_cons, List.not_mem_nil, or_false] at ha
    subst ha
    obtain ⟨e1, e2⟩ := exprs_ok (V := V) (A := A) (a := (.mk 1 s [] 0 .zero v [] [] [], d)) (app zero_ok (app (hg.ok hV hv hA (by omega)) nl))
    exact ⟨by simp, by simp [wfS1, wfP, fk, fl, nF, eF, isZ, Exp.zero, Exp.kind, Exp.n, Exp.name, Exp.op, Exp.kids, Stm.kind, Stm.name, Stm.to, Stm.n, Stm.sub, Stm.value, Stm.args, Stm.thn, Stm.els, hv s h, hg.wf hv], e1, e2, fun w => by rw [stepR_1 rfl]; simp [Stm.name, hV s h]⟩
  | @store k s x v h hx hg =>
    intro d a ha
    simp only [preS, preSl, List.append_nil, List.mem_cons, List.not_mem_nil, or_false] at ha
    subst ha
    have h1 : vName s = true ∧ A s = true := by rcases h with rfl | rfl; exact ⟨vName_ab.1, hA.1⟩; exact ⟨vName_ab.2.1, hA.2⟩
    obtain ⟨e1, e2⟩ := exprs_ok (V := V) (A := A) (a := (.mk 2 s [] 0 x v [] [] [], d)) (app (hx.ok hV hv hA (by omega)) (app (hg.ok hV hv hA (by omega)) nl))
    exact ⟨by simp, by simp [wfS1, wfP, fk, fl, nF, eF, isZ, Exp.zero, Exp.kind, Exp.n, Exp.name, Exp.op, Exp.kids, Stm.kind, Stm.name, Stm.to, Stm.n, Stm.sub, Stm.value, Stm.args, Stm.thn, Stm.els, h1.1, hg.wf hv, hx.wf hv], e1, e2, fun w => by rw [stepR_2 rfl]; simp [Stm.name, h1.2]⟩
  | @cond k v thn els hg _ _ ih1 ih2 =>
    intro d a ha
    simp only [preS, List.mem_cons, List.mem_append] at ha
    rcases ha with rfl | ha | ha
    · obtain ⟨e1, e2⟩ := exprs_ok (V := V) (A := A) (a := (.mk 3 [] [] 0 .zero v [] thn els, d)) (app zero_ok (app (hg.ok hV hv hA (by omega)) nl))
      exact ⟨by simp, by simp [wfS1, wfP, fk, fl, nF, eF, isZ, Exp.zero, Exp.kind, Exp.n, Exp.name, Exp.op, Exp.kids, Stm.kind, Stm.name, Stm.to, Stm.n, Stm.sub, Stm.value, Stm.args, Stm.thn, Stm.els, hg.wf hv], e1, e2, fun w => by rw [stepR_0 (by simp [Stm.kind]) (by simp [Stm.kind]) (by simp [Stm.kind])]⟩
    · obtain ⟨s, h1, h2⟩ := preSl_mem ha
      exact (ih1 s h1 (d + 1) a h2).le (by omega)
    · obtain ⟨s, h1, h2⟩ := preSl_mem ha
      exact (ih2 s h1 (d + 1) a h2).le (by omega)
  | @loop k v thn hg _ ih1 =>
    intro d a ha
    simp only [preS, preSl, List.append_nil, List.mem_cons] at ha
    rcases ha with rfl | ha
    · obtain ⟨e1, e2⟩ := exprs_ok (V := V) (A := A) (a := (.mk 4 [] [] 0 .zero v [] thn [], d)) (app zero_ok (app (hg.ok hV hv hA (by omega)) nl))
      exact ⟨by simp, by simp [wfS1, wfP, fk, fl, nF, eF, isZ, Exp.zero, Exp.kind, Exp.n, Exp.name, Exp.op, Exp.kids, Stm.kind, Stm.name, Stm.to, Stm.n, Stm.sub, Stm.value, Stm.args, Stm.thn, Stm.els, hg.wf hv], e1, e2, fun w => by rw [stepR_0 (by simp [Stm.kind]) (by simp [Stm.kind]) (by simp [Stm.kind])]⟩
    · obtain ⟨s, h1, h2⟩ := preSl_mem ha
      exact (ih1 s h1 (d + 1) a h2).le (by omega)
  | @out k v hg =>
    intro d a ha
    simp only [preS, preSl, List.append_nil, List.mem_cons, List.not_mem_nil, or_false] at ha
    subst ha
    obtain ⟨e1, e2⟩ := exprs_ok (V := V) (A := A) (a := (.mk 5 [] [] 0 .zero v [] [] [], d)) (app zero_ok (app (hg.ok hV hv hA (by omega)) nl))
    exact ⟨by simp, by simp [wfS1, wfP, fk, fl, nF, eF, isZ, Exp.zero, Exp.kind, Exp.n, Exp.name, Exp.op, Exp.kids, Stm.kind, Stm.name, Stm.to, Stm.n, Stm.sub, Stm.value, Stm.args, Stm.thn, Stm.els, hg.wf hv], e1, e2, fun w => by rw [stepR_0 (by simp [Stm.kind]) (by simp [Stm.kind]) (by simp [Stm.kind])]⟩
  | @call k s t args h ht hg =>
    intro d a ha
    simp only [preS, preSl, List.append_nil, List.mem_cons, List.not_mem_nil, or_false] at ha
    subst ha
    have hargs : ∀ x ∈ preEl 0 args, x.2 ≤ 20 ∧ okX V A x.1 = true := fun x hx => by
      obtain ⟨e, h1, h2⟩ := preEl_mem hx
      exact (hg e h1).ok hV hv hA (by omega) x h2
    have hw : args.all wfX = true := by rw [List.all_eq_true]; exact fun e he => (hg e he).wf hv
    obtain ⟨e1, e2⟩ := exprs_ok (V := V) (A := A) (a := (.mk 6 s t 0 .zero .zero args [] [], d)) (app zero_ok (app zero_ok hargs))
    have ht2 : vName t = true ∧ F t = some args.length := by
      rcases ht with ⟨rfl, h⟩ | ⟨rfl, h⟩
      · exact ⟨vName_ab.2.2.1, by rw [h]; exact hF.1⟩
      · exact ⟨vName_ab.2.2.2, by rw [h]; exact hF.2⟩
    exact ⟨by simp, by simp [wfS1, wfP, fk, fl, nF, eF, isZ, Exp.zero, Exp.kind, Exp.n, Exp.name, Exp.op, Exp.kids, Stm.kind, Stm.name, Stm.to, Stm.n, Stm.sub, Stm.value, Stm.args, Stm.thn, Stm.els, hv s h, ht2.1, ← List.all_eq_true, hw], e1, e2, fun w => by rw [stepR_6s rfl ht2.2]; simp [Stm.name, Stm.args, hV s h]⟩
  | @trap k n h =>
    intro d a ha
    simp only [preS, preSl, List.append_nil, List.mem_cons, List.not_mem_nil, or_false] at ha
    subst ha
    obtain ⟨e1, e2⟩ := exprs_ok (V := V) (A := A) (a := (.mk 7 [] [] n .zero .zero [] [] [], d)) (app zero_ok (app zero_ok nl))
    have h1 : ¬ n < 0 := by omega
    have h2 : ¬ n > 1000000 := by omega
    have h3 : decide (n < 0) = false := decide_eq_false h1
    have h4 : n ≤ 1000000 := by omega
    exact ⟨by simp, by simp [wfS1, wfP, fk, fl, nF, eF, isZ, Exp.zero, Exp.kind, Exp.n, Exp.name, Exp.op, Exp.kids, Stm.kind, Stm.name, Stm.to, Stm.n, Stm.sub, Stm.value, Stm.args, Stm.thn, Stm.els, h4]; exact h3, e1, e2, fun w => by rw [stepR_0 (by simp [Stm.kind]) (by simp [Stm.kind]) (by simp [Stm.kind])]⟩

end
/-! ### counts -/
theorem preSl_len : ∀ (n : Nat), (∀ s : Stm, nSt s ≤ n → ∀ d, (preS d s).length = nSt s) ∧ ∀ l : List Stm, nStl l ≤ n → ∀ d, (preSl d l).length = nStl l := by
  intro n
  induction n using Nat.strongRecOn
  rename_i n ih
  have hs : ∀ s : Stm, nSt s ≤ n → ∀ d, (preS d s).length = nSt s := fun s hn d => by
    cases s with
    | mk k nm to m a v args thn els =>
      simp only [nSt] at hn ⊢
      simp only [preS, List.length_cons, List.length_append]
      rw [(ih (n - 1) (by omega)).2 thn (by omega), (ih (n - 1) (by omega)).2 els (by omega)]
  refine ⟨hs, fun l => ?_⟩
  induction l with
  | nil => intro _ d; rfl
  | cons s r ihl =>
    intro hn d
    simp only [nStl] at hn ⊢
    simp only [preSl, List.length_append]
    rw [hs s (by omega), ihl (by omega)]
def isW (a : Stm × Nat) : Bool := decide (a.1.kind = 4)
theorem preSl_loops : ∀ (n : Nat), (∀ s : Stm, nSt s ≤ n → ∀ d, ((preS d s).filter isW).length = nLp s) ∧ ∀ l : List Stm, nStl l ≤ n → ∀ d, ((preSl d l).filter isW).length = nLpl l := by
  intro n
  induction n using Nat.strongRecOn
  rename_i n ih
  have hs : ∀ s : Stm, nSt s ≤ n → ∀ d, ((preS d s).filter isW).length = nLp s := fun s hn d => by
    cases s with
    | mk k nm to m a v args thn els =>
      simp only [nSt] at hn
      simp only [nLp, preS, List.filter_cons, List.filter_append]
      have e1 := (ih (n - 1) (by omega)).2 thn (by omega) (d + 1)
      have e2 := (ih (n - 1) (by omega)).2 els (by omega) (d + 1)
      by_cases hk : k = 4
      · rw [if_pos (by simp [isW, Stm.kind, hk]), if_pos hk]
        simp only [List.length_cons, List.length_append, e1, e2]
      · rw [if_neg (by simp [isW, Stm.kind, hk]), if_neg hk]
        simp only [List.length_append, e1, e2]; omega
  refine ⟨hs, fun l => ?_⟩
  induction l with
  | nil => intro _ d; rfl
  | cons s r ihl =>
    intro hn d
    simp only [nStl] at hn
    simp only [nLpl, preSl, List.filter_append, List.length_append]
    rw [hs s (by omega), ihl (by omega)]
theorem runL_lim : ∀ (l : List (Stm × Nat)) (n lp : Nat), (∀ a ∈ l, a.2 ≤ 20) → n + l.length ≤ 200 → lp + (l.filter isW).length ≤ 16 → (runL stepL (n, lp) l).1 = true
  | [], _, _, _, _, _ => rfl
  | a :: r, n, lp, h1, h2, h3 => by
    have ha := h1 a (by simp)
    simp only [List.length_cons] at h2
    by_cases hk : a.1.kind = 4
    · rw [List.filter_cons, if_pos (by simp [isW, hk]), List.length_cons] at h3
      have e : stepL (n, lp) a = (true, (n + 1, lp + 1)) := by
        simp only [stepL, if_pos hk]
        rw [decide_eq_true ha, decide_eq_true (by omega), decide_eq_true (by omega)]; rfl
      simp only [runL, e, if_true]
      exact runL_lim r (n + 1) (lp + 1) (fun b hb => h1 b (by simp [hb])) (by omega) (by omega)
    · rw [List.filter_cons, if_neg (by simp [isW, hk])] at h3
      have e : stepL (n, lp) a = (true, (n + 1, lp)) := by
        simp only [stepL, if_neg hk]
        rw [decide_eq_true ha, decide_eq_true (by omega), decide_eq_true (by omega)]; rfl
      simp only [runL, e, if_true]
      exact runL_lim r (n + 1) lp (fun b hb => h1 b (by simp [hb])) (by omega) (by omega)
theorem limF_of {f : Fn1} (h1 : f.params.length ≤ 6) (h2 : f.locals.length ≤ 8) (h3 : ∀ a ∈ preSl 0 f.body, a.2 ≤ 20 ∧ stepX stepD () a = (true, ())) (h4 : (preSl 0 f.body).length ≤ 200) (h5 : ((preSl 0 f.body).filter isW).length ≤ 16) (h6 : ∀ a ∈ preE 0 f.value, a.2 ≤ 20) : limF f = true := by
  unfold limF
  rw [decide_eq_true (show (f.params.length : Int) ≤ 6 by omega), decide_eq_true (show (f.locals.length : Int) ≤ 8 by omega), runL_lim _ 0 0 (fun a ha => (h3 a ha).1) (by omega) (by omega)]
  have e1 : runL stepD () (preE 0 f.value) = (true, ()) := runL_const fun a ha => by have := h6 a ha; simp [stepD, this]
  unfold runF
  rw [e1, runL_const fun a ha => (h3 a ha).2]
  rfl
theorem wfF_of {f : Fn1} (h1 : vName f.name = true) (h2 : ∀ s ∈ f.params, vName s = true) (h3 : ∀ s ∈ f.locals, vName s = true) (h4 : wfX f.value = true) (h5 : ∀ a ∈ preSl 0 f.body, wfS1 a.1 = true) : wfF f = true := by
  unfold wfF wfSl
  rw [h1, h4, List.all_eq_true.2 h2, List.all_eq_true.2 h3, List.all_eq_true.2 h5]; rfl
theorem resF_of {p : Pr} {f : Fn1} {w : Int} (h1 : ∀ a ∈ preE 0 f.value, okX (inV f) (inA p) a.1 = true) (h2 : ∀ a ∈ preSl 0 f.body, stepX (stepV (inV f) (inA p)) () a = (true, ())) : resF p w f = runL (stepR (inV f) (inA p) (arity p)) w (preSl 0 f.body) := by
  unfold resF
  have e1 : runL (stepV (inV f) (inA p)) () (preE 0 f.value) = (true, ()) := runL_const fun a ha => by have := h1 a ha; simp [stepV, this]
  have e2 : (runF (stepV (inV f) (inA p)) () f).1 = true := by
    unfold runF
    rw [e1, runL_const h2]; rfl
  rw [if_pos e2]
end Go.Proofs.Ytceakkomleaibaa
